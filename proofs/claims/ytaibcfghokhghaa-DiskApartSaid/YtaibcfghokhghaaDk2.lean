/- disk's state in memory; place, set, gone, cut. -/
import Derived.Test.YtaibcfghokhghaaDk1
set_option linter.unusedVariables false
set_option linter.unusedSimpArgs false
namespace Go.Proofs.Ytaibcfghokhghaa.Dk
open Go.RowKit Go.Proofs.Ytaibcfghokhghaa.Lk Go.Proofs.YtaibcfghokhghaaW.PrintWords Go.Proofs.YtaibcfghokhghaaW.PrintLast Go.Proofs.YtaibcfghokhghaaW.PrintMore
attribute [local go_sem] max2_int min2_int max_two min_two max_three min_three max_four min_four

structure Dsk where
  l : List File
  fuse : Int
  part : Int
  down : Bool
def dcells (lv : Value) (D : Dsk) : Array Value := #[lv, .int .i64 D.fuse, .int .i64 D.part, .bool D.down]
structure IsDisk (w : World) (b : Nat) (lv : Value) (D : Dsk) : Prop where
  cells : w.heap[b]? = some (.cells (dcells lv D) 47 (0, 0))
  row : Rw w 54 2 lv D.l.length (fcells D.l)
  apart : lv.ownBlock ≠ some b
/-- What a disk's method comes to: its answer, the disk, and that nothing else is changed. -/
def DK (w : World) (b : Nat) (lv : Value) (D' : Dsk) (v : Value) (e : Ending) (w' : World) : Prop :=
  e = .returned v ∧ ∃ lv', IsDisk w' b lv' D' ∧ Kp w w' (fun g => g = b ∨ lv.ownBlock = some g) ∧ (∀ g, lv'.ownBlock = some g → lv.ownBlock = some g ∨ w.heap.size ≤ g)
section
variable {w w' : World} {b : Nat} {lv : Value} {D D' : Dsk}
theorem IsDisk.lt (h : IsDisk w b lv D) : b < w.heap.size := (Array.getElem?_eq_some_iff.1 h.cells).1
theorem IsDisk.facts (h : IsDisk w b lv D) : w.cell? ⟨b, 0, none⟩ = some lv ∧ w.cell? ⟨b, 1, none⟩ = some (.int .i64 D.fuse) ∧ w.cell? ⟨b, 2, none⟩ = some (.int .i64 D.part) ∧ w.cell? ⟨b, 3, none⟩ = some (.bool D.down) ∧ (∀ i, w.frozen? ⟨b, i, none⟩ = false) := by
  refine ⟨?_, ?_, ?_, ?_, ?_⟩
  all_goals first
    | (simp [World.cell?, h.cells, dcells]; done)
    | (intro i; simp [World.frozen?, h.cells])
theorem IsDisk.kp {S : Nat → Prop} (h : IsDisk w b lv D) (hk : Kp w w' S) (h1 : ¬ S b) (h2 : ∀ g, lv.ownBlock = some g → ¬ S g) : IsDisk w' b lv D := ⟨hk.at h.cells h1, h.row.kp hk h2, h.apart⟩
theorem IsDisk.below (h : IsDisk w b lv D) (hb : Below w.heap.size w w') : IsDisk w' b lv D := h.kp (Kp.of_below hb (fun _ => False)) (fun x => x) (fun _ _ x => x)
theorem IsDisk.alloc (h : IsDisk w b lv D) (o : Obj) : IsDisk (w.alloc o) b lv D := h.kp ((Kp.refl w (fun _ => False)).alloc o) (fun x => x) (fun _ _ x => x)
theorem IsDisk.drew (h : IsDisk w b lv D) : IsDisk w.drew b lv D := ⟨h.cells, h.row, h.apart⟩
theorem IsDisk.drewN (h : IsDisk w b lv D) (n : Nat) : IsDisk (w.drewN n) b lv D := ⟨h.cells, h.row, h.apart⟩
theorem blk_put_ {w : World} {g : Nat} {t : TypeId} {cs cs' : Array Value} (h : w.heap[g]? = some (.cells cs t (0, 0))) (i : Nat) (v : Value) (e : cs.setIfInBounds i v = cs') : (w.setCell ⟨g, i, none⟩ v).heap[g]? = some (.cells cs' t (0, 0)) := by
  subst e
  simp [World.setCell, Array.getElem?_modify, h]
theorem IsDisk.set (h : IsDisk w b lv D) (i : Nat) (v : Value) (e : (dcells lv D).setIfInBounds i v = dcells lv D') (hl : D'.l = D.l) : IsDisk (w.setCell ⟨b, i, none⟩ v) b lv D' :=
  ⟨blk_put_ h.cells i v e, by rw [hl]; exact h.row.setCell h.apart v, h.apart⟩
/-- A new slice of files, where the old one grew, was put into the disk. -/
theorem IsDisk.put {lv' : Value} {l' : List File} (h : IsDisk w b lv D) (hr : Rw w' 54 2 lv' l'.length (fcells l')) (hk : Kp w w' (fun g => lv.ownBlock = some g)) (hf : ∀ g, lv'.ownBlock = some g → lv.ownBlock = some g ∨ w.heap.size ≤ g) :
    IsDisk (w'.setCell ⟨b, 0, none⟩ lv') b lv' { D with l := l' } := by
  have hap : lv'.ownBlock ≠ some b := fun e => by
    rcases hf b e with h1 | h1
    · exact h.apart h1
    · have := h.lt; omega
  exact ⟨blk_put_ (hk.at h.cells h.apart) 0 lv' rfl, hr.setCell hap _, hap⟩
theorem DK.same (h : IsDisk w b lv D) (hb : Below w.heap.size w w') (v : Value) : DK w b lv D v (.returned v) w' := ⟨rfl, lv, h.below hb, Kp.of_below hb _, fun g hg => .inl hg⟩
theorem kp_lt {S : Nat → Prop} (hk : Kp w w' S) {j : Nat} (h : j < w.heap.size) : j < w'.heap.size := Nat.lt_of_lt_of_le h hk.size
end
/-- One step behind another. -/
theorem DK.then {w w1 w2 : World} {b : Nat} {lv lv1 : Value} {D1 D2 : Dsk} {v : Value} {e : Ending} (h1 : IsDisk w1 b lv1 D1) (hk : Kp w w1 (fun g => g = b ∨ lv.ownBlock = some g)) (hf : ∀ g, lv1.ownBlock = some g → lv.ownBlock = some g ∨ w.heap.size ≤ g)
    (h2 : DK w1 b lv1 D2 v e w2) : DK w b lv D2 v e w2 := by
  obtain ⟨he, lv2, hd, hk2, hf2⟩ := h2
  refine ⟨he, lv2, hd, hk.trans hk2 (fun j hj x => x.elim .inl (fun x => (hf j x).elim .inr (fun y => by omega))), fun g hg => ?_⟩
  rcases hf2 g hg with h3 | h3
  · exact hf g h3
  · have := hk.size
    exact .inr (by omega)

set_option maxHeartbeats 1000000 in
set_option maxRecDepth 100000 in
theorem place_calls (w : World) (b : Nat) (lv : Value) (D : Dsk) (name : ByteArray) (p : Nat) (h : IsDisk w b lv D) (hl : D.l.length ≤ 1000000) (hp : Lower D.l name p) :
    Calls Try.prog 24 #[.pointer (some ⟨b, 0, none⟩), .string name] w fun e w' => e = .returned (.tuple #[.int .i64 (p : Int), .bool (isAt D.l name p)]) ∧ Below w.heap.size w w' := by
  obtain ⟨c0, c1, c2, c3, cf⟩ := h.facts
  have HR := Aside0.mk h.row
  have HP := Aside0.mk hp
  clear c1 c2 c3 cf h hp
  go_enter Try.func24, Try.ntmps24
  go_wp2_with (go_at_call 28; refine (search_calls w lv D.l name p HR.out hl HP.out).mono ?_; rintro e w5 ⟨rfl, hb5⟩)
  go_ret2
  exact ⟨rfl, hb5⟩

def setL (l : List File) (name data : ByteArray) (p : Nat) : List File := if isAt l name p = true then l.set p (name, data) else l.take p ++ (name, data) :: l.drop p
def goneL (l : List File) (name : ByteArray) (p : Nat) : List File := if isAt l name p = true then l.take p ++ l.drop (p + 1) else l
theorem cmpN_zero {a b : ByteArray} (h : cmpN a b = 0) : a = b := by
  have key : ∀ x y : List UInt8, Lib.compareBytes x y = 0 → x = y := by
    intro x
    induction x with
    | nil => intro y h; cases y with
      | nil => rfl
      | cons c y => simp [Lib.compareBytes] at h
    | cons c x ih =>
      intro y h
      cases y with
      | nil => simp [Lib.compareBytes] at h
      | cons d y =>
        simp only [Lib.compareBytes] at h
        by_cases h1 : c < d
        · rw [if_pos h1] at h; omega
        · rw [if_neg h1] at h
          by_cases h2 : d < c
          · rw [if_pos h2] at h; omega
          · rw [if_neg h2] at h
            have : c = d := UInt8.le_antisymm (UInt8.not_lt.mp h2) (UInt8.not_lt.mp h1)
            rw [this, ih y h]
  have := key _ _ h
  cases a; cases b
  simp only at this
  congr
  exact Array.toList_inj.mp this
theorem isAt_lt {l : List File} {name : ByteArray} {p : Nat} (h : isAt l name p = true) : ∃ hp : p < l.length, l[p].1 = name := by
  unfold isAt at h
  cases hq : l[p]? with
  | none => rw [hq] at h; simp at h
  | some x =>
    rw [hq] at h
    obtain ⟨hp, hx⟩ := List.getElem?_eq_some_iff.mp hq
    exact ⟨hp, by rw [hx]; exact cmpN_zero (of_decide_eq_true h)⟩
theorem fcells_set (l : List File) (p : Nat) (d : ByteArray) (hp : p < l.length) : (fcells l).set (p * 2 + 1) (.string d) = fcells (l.set p (l[p].1, d)) := by
  induction l generalizing p with
  | nil => simp at hp
  | cons x l ih =>
    cases p with
    | zero => rfl
    | succ p =>
      have := ih p (by simp only [List.length_cons] at hp; omega)
      rw [show (p + 1) * 2 + 1 = (p * 2 + 1) + 1 + 1 by omega]
      show Value.string x.1 :: Value.string x.2 :: (fcells l).set (p * 2 + 1) (.string d) = _
      rw [this]
      rfl
/-- A cell of a row is written. -/
theorem Rw.write {w : World} {e sz n g off cap : Nat} {xs : List Value} (h : Rw w e sz (.slice (some ⟨g, off, none⟩) n cap) n xs) (j : Nat) (hj : j < xs.length) (u : Value) :
    Rw (w.setCell ⟨g, off + j, none⟩ u) e sz (.slice (some ⟨g, off, none⟩) n cap) n (xs.set j u) := by
  obtain ⟨cur, hg, hn, hm, hs, hx⟩ := h.open_
  refine ⟨by rw [List.length_set]; exact h.1, .inr ⟨g, off, cap, cur.setIfInBounds (off + j) u, rfl, ?_, hn, hm, by rw [Array.size_setIfInBounds]; exact hs, ?_⟩⟩
  · simp [World.setCell, Array.getElem?_modify, hg]
  · rw [Array.toList_setIfInBounds, ← hx]
    rw [← hx, List.length_take, List.length_drop] at hj
    apply List.ext_getElem?
    intro q
    simp only [List.getElem?_take, List.getElem?_drop, List.getElem?_set, List.length_take, List.length_drop]
    by_cases hq : q < n * sz
    · simp only [hq, if_true]
      by_cases e2 : j = q
      · subst e2
        have : off + j < cur.size := by rw [Array.length_toList] at hj; omega
        simp [this]
        rw [Array.length_toList] at hj
        omega
      · have : off + j ≠ off + q := by omega
        simp [e2, this]
    · have : j ≠ q := by omega
      simp [hq, this]

/-- What holds where a file was put between others. -/
theorem set_mid {w5 w6 : World} {b p g2 off2 cap2 : Nat} {lv : Value} {D : Dsk} {name data : ByteArray} {o : Obj} (h : IsDisk w5 b lv D) (hp : p ≤ D.l.length) (hat : isAt D.l name p = false)
    (hR : Rw w6 54 2 (.slice (some ⟨g2, off2, none⟩) (D.l.length + 1) cap2) (D.l.length + 1) ((fcells D.l).take (p * 2) ++ [.string name, .string ⟨#[]⟩] ++ (fcells D.l).drop (p * 2)))
    (hG : (w5.alloc o).grownBy w6 lv.ownBlock) (hF : ∀ k, (Value.slice (some ⟨g2, off2, none⟩) (D.l.length + 1) cap2).ownBlock = some k → lv.ownBlock = some k ∨ (w5.alloc o).heap.size ≤ k) :
    w6.cell? ⟨b, 0, none⟩ = some lv ∧ w6.frozen? ⟨b, 0, none⟩ = false ∧ b < w6.heap.size ∧ g2 ≠ b ∧ w6.cell? ⟨g2, off2 + p * 2 + 1, none⟩ = some (.string ⟨#[]⟩) ∧ w6.frozen? ⟨g2, off2 + p * 2 + 1, none⟩ = false ∧
      DK w5 b lv { D with l := setL D.l name data p } (.tuple #[]) (.returned (.tuple #[])) ((w6.setCell ⟨b, 0, none⟩ (.slice (some ⟨g2, off2, none⟩) (D.l.length + 1) cap2)).setCell ⟨g2, off2 + p * 2 + 1, none⟩ (.string data)) := by
  have hs : (w5.alloc o).heap.size = w5.heap.size + 1 := by simp
  have hb := h.lt
  have hbk : w6.heap[b]? = some (.cells (dcells lv D) 47 (0, 0)) := (hG.block b (by omega) (fun e => h.apart e.symm)).trans ((heap_alloc_old w5 o hb).trans h.cells)
  have hf2 := hF g2 rfl
  have hgb : g2 ≠ b := by
    intro e
    subst e
    rcases hf2 with h1 | h1
    · exact h.apart h1
    · omega
  have hk : Kp w5 w6 (fun g => lv.ownBlock = some g) := ((Kp.refl w5 _).alloc o).grown hG (fun k hk _ => hk)
  have e2 : (fcells D.l).take (p * 2) ++ [.string name, .string ⟨#[]⟩] ++ (fcells D.l).drop (p * 2) = fcells (D.l.take p ++ (name, ⟨#[]⟩) :: D.l.drop p) := by
    rw [fcells_take, fcells_drop, fcells_append, List.append_assoc]
    rfl
  have el : (D.l.take p ++ (name, (⟨#[]⟩ : ByteArray)) :: D.l.drop p).length = D.l.length + 1 := by
    rw [List.length_append, List.length_take, List.length_cons, List.length_drop]; omega
  rw [e2] at hR
  have hpl : p < (D.l.take p ++ (name, (⟨#[]⟩ : ByteArray)) :: D.l.drop p).length := by omega
  have hat_p : (D.l.take p ++ (name, (⟨#[]⟩ : ByteArray)) :: D.l.drop p)[p] = (name, ⟨#[]⟩) := by
    rw [List.getElem_append_right (by rw [List.length_take]; omega)]
    simp [List.length_take, Nat.min_eq_left hp]
  have hc := (fcells_at _ p hpl).2
  rw [hat_p] at hc
  have hput : IsDisk (w6.setCell ⟨b, 0, none⟩ (.slice (some ⟨g2, off2, none⟩) (D.l.length + 1) cap2)) b (.slice (some ⟨g2, off2, none⟩) (D.l.length + 1) cap2) { D with l := D.l.take p ++ (name, ⟨#[]⟩) :: D.l.drop p } :=
    h.put (by rw [el]; exact hR) hk (fun g hg => (hF g hg).elim .inl (fun x => .inr (by omega)))
  refine ⟨by simp [World.cell?, hbk, dcells], by simp [World.frozen?, hbk], (Array.getElem?_eq_some_iff.1 hbk).1, hgb, by rw [Nat.add_assoc]; exact hR.cell hc, hR.frozen _, rfl, _, ⟨?_, ?_, hput.apart⟩, ?_, fun g hg => (hF g hg).elim .inl (fun x => .inr (by omega))⟩
  · exact (Below.heap_setCell _ _ _ b (fun e => hgb e.symm)).trans hput.cells
  · have hrow := hput.row
    simp only [el] at hrow
    have hw := Rw.write hrow (p * 2 + 1) (by rw [fcells_length, el]; omega) (.string data)
    rw [fcells_set _ _ _ hpl, hat_p] at hw
    have e3 : setL D.l name data p = (D.l.take p ++ (name, (⟨#[]⟩ : ByteArray)) :: D.l.drop p).set p (name, data) := by
      unfold setL
      rw [if_neg (by rw [hat]; simp), List.set_append_right _ _ (by rw [List.length_take]; omega)]
      simp [List.length_take, Nat.min_eq_left hp]
    show Rw _ 54 2 _ (setL D.l name data p).length (fcells (setL D.l name data p))
    rw [e3, List.length_set, el, Nat.add_assoc]
    exact hw
  · refine ((hk.mono (fun _ _ x => .inr x)).setCell _ _ (fun _ => .inl rfl)).setCell _ _ (fun hlt => ?_)
    rcases hf2 with h1 | h1
    · exact .inr h1
    · have : g2 < w5.heap.size := hlt
      omega

set_option maxHeartbeats 2000000 in
set_option maxRecDepth 100000 in
theorem set_calls (w : World) (b : Nat) (lv : Value) (D : Dsk) (name data : ByteArray) (p : Nat) (h : IsDisk w b lv D) (hl : D.l.length ≤ 100000) (hp : Lower D.l name p) :
    Calls Try.prog 23 #[.pointer (some ⟨b, 0, none⟩), .string name, .string data] w (DK w b lv { D with l := setL D.l name data p } (.tuple #[])) := by
  have HD := Aside0.mk h
  have HP := Aside0.mk hp
  cases hat : isAt D.l name p with
  | true =>
    obtain ⟨hpl, hnm⟩ := isAt_lt hat
    have HA := Aside0.mk hat
    have HN := Aside0.mk hnm
    have HL := Aside0.mk hpl
    obtain ⟨g, off, cap, rfl, hnc, _⟩ := h.row.form2 (by omega)
    clear hat hnm h hp
    have e1 : (p : Int) < (D.l.length : Int) := by omega
    have e2 : (0 : Int) ≤ (p : Int) := by omega
    go_enter Try.func23, Try.ntmps23
    go_wp2_with (go_at_call 24; refine (place_calls w b _ D name p HD.out (by omega) HP.out).mono ?_; rintro e w5 ⟨rfl, hb5⟩; have HD5 := Aside0.mk (HD.out.below hb5); have HB5 := Aside0.mk hb5; clear hb5; obtain ⟨c0, c1, c2, c3, cf⟩ := HD5.out.facts; have y2 := (file_cells HD5.out.row p HL.out).2; have yf := HD5.out.row.frozen (off + p * 2 + 1); rw [HA.out]; clear c1 c2 c3 cf)
    go_end0
    have hD := HD5.out
    have hg : g ≠ b := by have := hD.apart; simpa [Value.ownBlock] using this
    have hw := Rw.write hD.row (p * 2 + 1) (by rw [fcells_length]; have := HL.out; omega) (.string data)
    rw [fcells_set _ _ _ HL.out, HN.out] at hw
    have el : setL D.l name data p = D.l.set p (name, data) := by unfold setL; rw [if_pos HA.out]
    refine ⟨rfl, .slice (some ⟨g, off, none⟩) D.l.length cap, ⟨?_, ?_, hD.apart⟩, ?_, fun q hq => .inl hq⟩
    · exact (Below.heap_setCell _ _ _ b (fun e => hg e.symm)).trans hD.cells
    · show Rw _ 54 2 _ (setL D.l name data p).length (fcells (setL D.l name data p))
      rw [el, List.length_set, Nat.add_assoc]
      exact hw
    · exact (Kp.of_below HB5.out _).setCell _ _ (fun _ => .inr rfl)
  | false =>
    have HA := Aside0.mk hat
    clear hat h hp
    have e2 : (0 : Int) ≤ (p : Int) := by omega
    have HPL := Aside0.mk HP.out.1
    have HONE := Aside0.mk (show ∀ u ∈ (#[Value.string name, .string ⟨#[]⟩] : Array Value), u.oneCell' = true by
      intro u hu
      have : u = .string name ∨ u = .string ⟨#[]⟩ := by simpa using hu
      rcases this with rfl | rfl <;> rfl)
    go_enter Try.func23, Try.ntmps23
    go_wp2_with (first
      | (go_at_call 24; refine (place_calls w b _ D name p HD.out (by omega) HP.out).mono ?_; rintro e w5 ⟨rfl, hb5⟩; have HD5 := Aside0.mk (HD.out.below hb5); have HB5 := Aside0.mk hb5; clear hb5; obtain ⟨c0, c1, c2, c3, cf⟩ := HD5.out.facts; rw [HA.out]; clear c1 c2 c3 cf)
      | (go_at_call 27; refine (Sl1.insert_calls _ D.l.length p w5.heap.size lv (fcells D.l) #[.string name, .string ⟨#[]⟩] (Rw.alloc HD5.out.row _) HPL.out (heap_alloc_new w5 _) (fun e => absurd (HD5.out.row.lt _ e) (Nat.lt_irrefl _)) rfl (fcells_one _) HONE.out (by omega)).mono ?_; rintro e w6 ⟨v', rfl, hR6, hG6, hF6⟩; obtain ⟨g2, off2, cap2, rfl, hcap2, _⟩ := hR6.form2 (by omega); obtain ⟨d0, d1, d2, d3, d4, d5, d6⟩ := set_mid (data := data) HD5.out HPL.out HA.out hR6 hG6 hF6; have HS6 := Aside0.mk d6; have e1 : (p : Int) < ((D.l.length + 1 : Nat) : Int) := Int.ofNat_lt.mpr (Nat.lt_succ_of_le HPL.out); clear d6 hR6 hG6 hF6 c0))
    go_end0
    exact DK.then (HD.out.below HB5.out) (Kp.of_below HB5.out _) (fun g hg => .inl hg) HS6.out
end Go.Proofs.Ytaibcfghokhghaa.Dk
