/- disk's New, Copy; the reference's disk in memory, its Write. -/
import Derived.Test.YtaibcfghokhghaaDk4
import Derived.Test.YtaibcfghokhghaaPAx2
set_option linter.unusedVariables false
set_option linter.unusedSimpArgs false
namespace Go.Proofs.Ytaibcfghokhghaa.Dk
open Go.RowKit Go.Proofs.Ytaibcfghokhghaa.Lk Go.Proofs.YtaibcfghokhghaaW.PrintWords Go.Proofs.YtaibcfghokhghaaW.PrintLast Go.Proofs.YtaibcfghokhghaaW.PrintMore Go.Proofs.Ytaibcfghokhghaa.PA
attribute [local go_sem] max2_int min2_int max_two min_two max_three min_three max_four min_four

def D0 : Dsk := ⟨[], -1, 0, false⟩
set_option maxHeartbeats 1000000 in
set_option maxRecDepth 100000 in
theorem new_calls (w : World) : Calls Try.prog 6 #[] w fun e w' => e = .returned (.pointer (some ⟨w.heap.size, 0, none⟩)) ∧ w' = w.alloc (.cells (dcells (.slice none 0 0) D0) 47) := by
  go_enter Try.func6, Try.ntmps6
  go_wp2
  go_ret
  exact ⟨rfl, rfl⟩
theorem new_disk (w : World) : IsDisk (w.alloc (.cells (dcells (.slice none 0 0) D0) 47)) w.heap.size (.slice none 0 0) D0 := ⟨heap_alloc_new w _, Rw.nil _ _ _, by simp [Value.ownBlock]⟩
theorem copy_blk {w w6 : World} {A : Option Addr} {c : Nat} {D : Dsk} (hb : Below (w.alloc (.cells (dcells (.slice A D.l.length c) D) 47)).heap.size (w.alloc (.cells (dcells (.slice A D.l.length c) D) 47)) w6) :
    w6.heap[w.heap.size]? = some (.cells (dcells (.slice A D.l.length c) D) 47 (0, 0)) := (hb.block _ (by simp)).trans (heap_alloc_new w _)
set_option maxHeartbeats 1000000 in
set_option maxRecDepth 100000 in
theorem copy_calls (w : World) (b : Nat) (lv : Value) (D : Dsk) (h : IsDisk w b lv D) (hl : D.l.length ≤ 100000) :
    Calls Try.prog 10 #[.pointer (some ⟨b, 0, none⟩)] w fun e w' => ∃ nb lv', e = .returned (.pointer (some ⟨nb, 0, none⟩)) ∧ IsDisk w' nb lv' D ∧ Below w.heap.size w w' ∧ w.heap.size ≤ nb ∧ (∀ g, lv'.ownBlock = some g → w.heap.size ≤ g) := by
  obtain ⟨c0, c1, c2, c3, cf⟩ := h.facts
  have HD := Aside0.mk h
  obtain ⟨A, c, hlv, hnc, _⟩ := h.row.form
  have HLV := Aside0.mk hlv
  rw [hlv] at c0
  have hblt := h.lt
  clear cf h hlv
  go_enter Try.func10, Try.ntmps10
  go_wp2_with (go_at_call 21; refine (Sl1.clone_calls _ D.l.length _ (fcells D.l) (by rw [← HLV.out]; exact Rw.alloc HD.out.row _) (fcells_one _) (by omega)).mono ?_; rintro e w6 ⟨v', rfl, hR6, hB6, hF6⟩; obtain ⟨A9, c9, rfl, _, _⟩ := hR6.form; have hc6 := copy_blk (D := D) hB6; have d0 : w6.cell? ⟨w.heap.size, 0, none⟩ = some (.slice A D.l.length c) := (by simp [World.cell?, hc6, dcells]); have d1 : w6.frozen? ⟨w.heap.size, 0, none⟩ = false := (by simp [World.frozen?, hc6]); have HR6 := Aside0.mk hR6; have HB6 := Aside0.mk hB6; have HF6 := Aside0.mk hF6; have HC6 := Aside0.mk hc6; clear hR6 hB6 hF6 hc6 c0)
  go_ret
  have hs : (w.alloc (.cells (dcells (.slice A D.l.length c) D) 47)).heap.size = w.heap.size + 1 := by simp
  have hap : (Value.slice A9 D.l.length c9).ownBlock ≠ some w.heap.size := fun e => by
    have : (w.alloc (.cells (dcells (.slice A D.l.length c) D) 47)).heap.size ≤ w.heap.size := HF6.out _ e
    omega
  refine ⟨w.heap.size, .slice A9 D.l.length c9, rfl, ⟨blk_put_ HC6.out 0 _ rfl, HR6.out.setCell hap _, hap⟩, ?_, Nat.le_refl _, fun g hg => ?_⟩
  · have h1 : Below w.heap.size w (w.alloc (.cells (dcells (.slice A D.l.length c) D) 47)) := (Below.refl _ _).alloc (Nat.le_refl _) _
    have h2 : Below (w.alloc (.cells (dcells (.slice A D.l.length c) D) 47)).heap.size (w.alloc (.cells (dcells (.slice A D.l.length c) D) 47)) w6 := HB6.out
    exact (h1.trans (h2.mono (by omega))).setCell (Nat.le_refl _) _
  · have : (w.alloc (.cells (dcells (.slice A D.l.length c) D) 47)).heap.size ≤ g := HF6.out _ hg
    omega

/-! ### the reference's disk -/
structure IsRef (w : World) (b : Nat) (mv : Value) (M : Dsk) : Prop where
  cells : w.heap[b]? = some (.cells (dcells mv M) 30 (0, 0))
  row : Rw w 51 2 mv M.l.length (fcells M.l)
  apart : mv.ownBlock ≠ some b
def RK (w : World) (b : Nat) (mv : Value) (M' : Dsk) (v : Value) (e : Ending) (w' : World) : Prop :=
  e = .returned v ∧ ∃ mv', IsRef w' b mv' M' ∧ Kp w w' (fun g => g = b ∨ mv.ownBlock = some g) ∧ (∀ g, mv'.ownBlock = some g → mv.ownBlock = some g ∨ w.heap.size ≤ g)
section
variable {w w' : World} {b : Nat} {mv : Value} {M M' : Dsk}
theorem IsRef.lt (h : IsRef w b mv M) : b < w.heap.size := (Array.getElem?_eq_some_iff.1 h.cells).1
theorem IsRef.facts (h : IsRef w b mv M) : w.cell? ⟨b, 0, none⟩ = some mv ∧ w.cell? ⟨b, 1, none⟩ = some (.int .i64 M.fuse) ∧ w.cell? ⟨b, 2, none⟩ = some (.int .i64 M.part) ∧ w.cell? ⟨b, 3, none⟩ = some (.bool M.down) ∧ (∀ i, w.frozen? ⟨b, i, none⟩ = false) := by
  refine ⟨?_, ?_, ?_, ?_, ?_⟩
  all_goals first
    | (simp [World.cell?, h.cells, dcells]; done)
    | (intro i; simp [World.frozen?, h.cells])
theorem IsRef.kp {S : Nat → Prop} (h : IsRef w b mv M) (hk : Kp w w' S) (h1 : ¬ S b) (h2 : ∀ g, mv.ownBlock = some g → ¬ S g) : IsRef w' b mv M := ⟨hk.at h.cells h1, h.row.kp hk h2, h.apart⟩
theorem IsRef.below (h : IsRef w b mv M) (hb : Below w.heap.size w w') : IsRef w' b mv M := h.kp (Kp.of_below hb (fun _ => False)) (fun x => x) (fun _ _ x => x)
theorem IsRef.alloc (h : IsRef w b mv M) (o : Obj) : IsRef (w.alloc o) b mv M := h.kp ((Kp.refl w (fun _ => False)).alloc o) (fun x => x) (fun _ _ x => x)
theorem IsRef.drew (h : IsRef w b mv M) : IsRef w.drew b mv M := ⟨h.cells, h.row, h.apart⟩
theorem IsRef.drewN (h : IsRef w b mv M) (n : Nat) : IsRef (w.drewN n) b mv M := ⟨h.cells, h.row, h.apart⟩
theorem IsRef.set (h : IsRef w b mv M) (i : Nat) (v : Value) (e : (dcells mv M).setIfInBounds i v = dcells mv M') (hl : M'.l = M.l) : IsRef (w.setCell ⟨b, i, none⟩ v) b mv M' :=
  ⟨blk_put_ h.cells i v e, by rw [hl]; exact h.row.setCell h.apart v, h.apart⟩
theorem IsRef.put {mv' : Value} {l' : List File} (h : IsRef w b mv M) (hr : Rw w' 51 2 mv' l'.length (fcells l')) (hk : Kp w w' (fun g => mv.ownBlock = some g)) (hf : ∀ g, mv'.ownBlock = some g → mv.ownBlock = some g ∨ w.heap.size ≤ g) :
    IsRef (w'.setCell ⟨b, 0, none⟩ mv') b mv' { M with l := l' } := by
  have hap : mv'.ownBlock ≠ some b := fun e => by
    rcases hf b e with h1 | h1
    · exact h.apart h1
    · have := h.lt; omega
  exact ⟨blk_put_ (hk.at h.cells h.apart) 0 mv' rfl, hr.setCell hap _, hap⟩
end
def rl (l : List File) : List S51 := l.map fun x => ⟨x.1, x.2⟩
def fl (l : List S51) : List File := l.map fun x => (x.f0, x.f1)
theorem rl_length (l : List File) : (rl l).length = l.length := by simp [rl]
theorem fl_length (l : List S51) : (fl l).length = l.length := by simp [fl]
theorem fl_rl (l : List File) : fl (rl l) = l := by simp [fl, rl, Function.comp_def]
theorem Rw.reads51 {w : World} {v : Value} {l : List File} (h : Rw w 51 2 v l.length (fcells l)) (hm : l.length ≤ 9223372036854775807) : ∃ A c, v = .slice A (rl l).length c ∧ (rl l).length ≤ c ∧ Kd.C k51 w A (rl l).length (rl l) := by
  obtain ⟨A, c, rfl, hc, hcell⟩ := h.form
  refine ⟨A, c, by rw [rl_length], by rw [rl_length]; exact hc, rfl, by rw [rl_length]; exact hm, fun hpos => ?_⟩
  rw [rl_length] at hpos
  obtain ⟨a, hA, _⟩ := hcell 0 _ (fcells_at l 0 hpos).1
  refine ⟨a, hA, fun j p hj => ?_⟩
  have hjl : j < l.length := by have := (List.getElem?_eq_some_iff.1 hj).1; rw [rl_length] at this; exact this
  have hp : p = ⟨l[j].1, l[j].2⟩ := by
    have := hj
    simp [rl, List.getElem?_map, List.getElem?_eq_getElem hjl] at this
    exact this.symm
  subst hp
  refine ⟨_, rfl, k51_mk w _, fun i u hu => ?_⟩
  obtain ⟨h1, h2⟩ := fcells_at l j hjl
  match i with
  | 0 =>
    simp only [List.getElem?_cons_zero, Option.some.injEq] at hu
    subst hu
    obtain ⟨a', hA', hc'⟩ := hcell _ _ h1
    rw [hA] at hA'
    obtain rfl := Option.some.inj hA'
    exact hc'
  | 1 =>
    simp only [List.getElem?_cons_succ, List.getElem?_cons_zero, Option.some.injEq] at hu
    subst hu
    obtain ⟨a', hA', hc'⟩ := hcell _ _ h2
    rw [hA] at hA'
    obtain rfl := Option.some.inj hA'
    exact hc'
  | i + 2 => simp at hu
theorem Rw.of51 {w : World} {base : Nat} {ok : Nat → Prop} {v : Value} {r : List S51} (h : Kd.R k51 51 w base ok v r) : Rw w 51 2 v (fl r).length (fcells (fl r)) ∧ (∀ g, v.ownBlock = some g → base ≤ g) := by
  obtain ⟨_, inner, ho, hr⟩ := h
  have hin : inner = fcells (fl r) := by
    obtain ⟨hl, hp⟩ := hr
    have hl2 : inner.length = r.length * 2 := hl
    have hp2 : ∀ j p, r[j]? = some p → (inner.drop (j * 2)).take 2 = [.string p.f0, .string p.f1] := fun j p hj => k51_openM (hp j p hj)
    clear hl hp ho
    induction r generalizing inner with
    | nil => simp at hl2; subst hl2; rfl
    | cons x r ih =>
      have h0 := hp2 0 x rfl
      simp only [Nat.zero_mul, List.drop_zero] at h0
      have e1 : inner = inner.take 2 ++ inner.drop 2 := (List.take_append_drop 2 inner).symm
      rw [e1, h0]
      rw [ih (inner.drop 2) (by rw [List.length_drop, hl2, List.length_cons]; omega) (fun j p hj => by
        have := hp2 (j + 1) p (by simpa using hj)
        rw [List.drop_drop]
        rw [show 2 + j * 2 = (j + 1) * 2 by omega]
        exact this)]
      rfl
  subst hin
  rw [fl_length]
  obtain ⟨h1, h2⟩ := ho
  refine ⟨⟨h1, ?_⟩, fun g hg => ?_⟩
  · rcases h2 with h2 | ⟨g, cap, cur, hv, hb, hh, hn, hm, hs, hx⟩
    · exact .inl h2
    · exact .inr ⟨g, 0, cap, cur, hv, hh, hn, hm, by have : cur.size = cap * 2 := hs; omega, by rw [List.drop_zero]; exact hx⟩
  · rcases h2 with ⟨rfl, _⟩ | ⟨g2, cap, cur, rfl, hb, _⟩
    · simp [Value.ownBlock] at hg
    · have : g2 = g := by simpa [Value.ownBlock] using hg
      omega

theorem ref_C {w : World} {b c : Nat} {A : Option Addr} {M : Dsk} {l : List File} (h : IsRef w b (.slice A (rl l).length c) M) (e : M.l = l) (hl : l.length ≤ 1000000) : Kd.C k51 w A (rl l).length (rl l) := by
  subst e
  obtain ⟨A', c', e, _, hC⟩ := Rw.reads51 h.row (by omega)
  injection e with e1 _ _
  subst e1
  exact hC
/-- The new list is put into the reference's disk. -/
theorem ref_put {w w1 w5 : World} {b c c9 : Nat} {A A9 : Option Addr} {M M1 : Dsk} {r : List S51} {ok : Nat → Prop} {v : Value} (h1 : IsRef w1 b (.slice A (rl M.l).length c) M1) (hk : Kp w w1 (fun g => g = b ∨ (Value.slice A (rl M.l).length c).ownBlock = some g))
    (hb : Below w1.heap.size w1 w5) (hR : Kd.R k51 51 w5 w1.heap.size ok v r) (hv : v = .slice A9 (fl r).length c9) (n : Int) :
    RK w b (.slice A (rl M.l).length c) { M1 with l := fl r } (.int .i64 n) (.returned (.int .i64 n)) (w5.setCell ⟨b, 0, none⟩ (.slice A9 (fl r).length c9)) := by
  subst hv
  obtain ⟨hRw, hown⟩ := Rw.of51 hR
  refine ⟨rfl, _, h1.put hRw (Kp.of_below hb _) (fun g hg => .inr (hown g hg)), (hk.then_below hb).setCell _ _ (fun _ => .inl rfl), fun g hg => .inr ?_⟩
  have := hown g hg
  have := hk.size
  omega
theorem ref_at {w1 w5 : World} {b : Nat} {mv : Value} {M1 : Dsk} (h1 : IsRef w1 b mv M1) (hb : Below w1.heap.size w1 w5) : w5.cell? ⟨b, 0, none⟩ = some mv ∧ w5.frozen? ⟨b, 0, none⟩ = false := by
  obtain ⟨c0, _, _, _, cf⟩ := (h1.below hb).facts
  exact ⟨c0, cf 0⟩
/-- Write: an error's number, and the disk. -/
def writeF (k : Nat) (M : Dsk) (name data : ByteArray) (gone : Bool) : Option (Int × Dsk) :=
  if M.l.length ≤ 1000000 then
    if M.down = true then some (11, M)
    else if M.fuse = 0 then
      if 0 < M.part then
        (knapsackref21_Set.f k (rl M.l) name (if M.part < (data.size : Int) then data.extract 0 M.part.toNat else data) gone).bind fun r => some (11, { M with l := fl r, down := true })
      else some (11, { M with down := true })
    else (knapsackref21_Set.f k (rl M.l) name data gone).bind fun r => some (0, { M with l := fl r, fuse := if 0 < M.fuse then M.fuse - 1 else M.fuse })
  else none
set_option maxHeartbeats 2000000 in
set_option maxRecDepth 100000 in
theorem write_calls (k : Nat) (w : World) (b : Nat) (mv : Value) (M M' : Dsk) (name data : ByteArray) (gone : Bool) (n : Int) (h : IsRef w b mv M) (hd : data.size ≤ 1000000) (hf : M.fuse ≤ 9223372036854775807) (hf0 : -9223372036854775808 ≤ M.fuse) (hw : writeF k M name data gone = some (n, M')) :
    Calls Try.prog 19 #[.pointer (some ⟨b, 0, none⟩), .string name, .string data, .bool gone] w (RK w b mv M' (.int .i64 n)) := by
  obtain ⟨c0, c1, c2, c3, cf⟩ := h.facts
  have f0 := cf 0
  have f1 := cf 1
  have f3 := cf 3
  have HM := Aside0.mk h
  unfold writeF at hw
  by_cases hl : M.l.length ≤ 1000000
  · rw [if_pos hl] at hw
    obtain ⟨A, c, rfl, hlc, hC⟩ := Rw.reads51 h.row (by omega)
    clear cf h hC
    have HK := Aside0.mk (Kp.refl w (fun g => g = b ∨ (Value.slice A (rl M.l).length c).ownBlock = some g))
    cases hdn : M.down with
    | true =>
      rw [if_pos hdn] at hw
      simp only [Option.some.injEq, Prod.mk.injEq] at hw
      obtain ⟨rfl, rfl⟩ := hw
      rw [hdn] at c3
      go_enter Try.func19, Try.ntmps19
      go_wp2
      go_ret
      exact ⟨rfl, _, HM.out, Kp.refl _ _, fun g hg => .inl hg⟩
    | false =>
      rw [if_neg (by rw [hdn]; simp)] at hw
      rw [hdn] at c3
      by_cases z0 : M.fuse = 0
      · rw [if_pos z0] at hw
        have e1 : (M.fuse != 0) = false := by simp [z0]
        have e1b : (M.fuse == 0) = true := by simp [z0]
        by_cases z1 : 0 < M.part
        · rw [if_pos z1] at hw
          have e2 : decide (0 < M.part) = true := decide_eq_true z1
          replace hw := Option.bind_eq_some_iff.mp hw
          obtain ⟨r, hr, hw⟩ := hw
          simp only [Option.some.injEq, Prod.mk.injEq] at hw
          obtain ⟨rfl, rfl⟩ := hw
          by_cases z2 : M.part < (data.size : Int)
          · rw [if_pos z2] at hr
            have HS := Aside0.mk hr
            have e3 : decide (M.part < (data.size : Int)) = true := decide_eq_true z2
            have e4 : M.part ≤ (data.size : Int) := by omega
            have e5 : (0 : Int) ≤ M.part := by omega
            have HM1 := Aside0.mk (HM.out.set 3 (.bool true) (M' := { M with down := true }) rfl rfl)
            have HK1 := Aside0.mk (HK.out.setCell ⟨b, 3, none⟩ (.bool true) (fun _ => .inl rfl))
            clear z0 z1 z2 hr hdn
            go_enter Try.func19, Try.ntmps19
            go_wp2_with (go_at_call 26; refine (knapsackref21_Set.calls k A c (rl M.l) name _ gone r _ (ref_C HM1.out rfl hl) hlc HS.out).mono ?_; rintro e w5 ⟨v0, rfl, hR5, hB5⟩; obtain ⟨A9, c9, hv0, _, _⟩ := (Rw.of51 hR5).1.form; have HP := Aside0.mk (fun n => ref_put (n := n) HM1.out HK1.out hB5 hR5 hv0); obtain ⟨d0, d1⟩ := ref_at HM1.out hB5; subst hv0; clear hR5 hB5)
            go_ret
            exact HP.out 11
          · rw [if_neg z2] at hr
            have HS := Aside0.mk hr
            have e3 : decide (M.part < (data.size : Int)) = false := decide_eq_false z2
            have HM1 := Aside0.mk (HM.out.set 3 (.bool true) (M' := { M with down := true }) rfl rfl)
            have HK1 := Aside0.mk (HK.out.setCell ⟨b, 3, none⟩ (.bool true) (fun _ => .inl rfl))
            clear z0 z1 z2 hr hdn
            go_enter Try.func19, Try.ntmps19
            go_wp2_with (go_at_call 26; refine (knapsackref21_Set.calls k A c (rl M.l) name _ gone r _ (ref_C HM1.out rfl hl) hlc HS.out).mono ?_; rintro e w5 ⟨v0, rfl, hR5, hB5⟩; obtain ⟨A9, c9, hv0, _, _⟩ := (Rw.of51 hR5).1.form; have HP := Aside0.mk (fun n => ref_put (n := n) HM1.out HK1.out hB5 hR5 hv0); obtain ⟨d0, d1⟩ := ref_at HM1.out hB5; subst hv0; clear hR5 hB5)
            go_ret
            exact HP.out 11
        · rw [if_neg z1] at hw
          simp only [Option.some.injEq, Prod.mk.injEq] at hw
          obtain ⟨rfl, rfl⟩ := hw
          have e2 : decide (0 < M.part) = false := decide_eq_false z1
          clear z0 z1 hdn
          go_enter Try.func19, Try.ntmps19
          go_wp2
          go_ret
          exact ⟨rfl, _, HM.out.set 3 _ (M' := { M with down := true }) rfl rfl, (Kp.refl w _).setCell _ _ (fun _ => .inl rfl), fun g hg => .inl hg⟩
      · rw [if_neg z0] at hw
        have e1 : (M.fuse != 0) = true := bne_iff_ne.mpr z0
        have e1b : (M.fuse == 0) = false := beq_eq_false_iff_ne.mpr z0
        have e1c : (M.fuse = 0) = False := eq_false z0
        replace hw := Option.bind_eq_some_iff.mp hw
        obtain ⟨r, hr, hw⟩ := hw
        have HS := Aside0.mk hr
        by_cases z1 : 0 < M.fuse
        · rw [if_pos z1] at hw
          simp only [Option.some.injEq, Prod.mk.injEq] at hw
          obtain ⟨rfl, rfl⟩ := hw
          have e2 : decide (0 < M.fuse) = true := decide_eq_true z1
          have e3 : IntKind.i64.wrap (M.fuse - 1) = M.fuse - 1 := by simp [IntKind.wrap, IntKind.bits, IntKind.signed]; omega
          have HM1 := Aside0.mk (HM.out.set 1 (.int .i64 (M.fuse - 1)) (M' := { M with fuse := M.fuse - 1 }) rfl rfl)
          have HK1 := Aside0.mk (HK.out.setCell ⟨b, 1, none⟩ (.int .i64 (M.fuse - 1)) (fun _ => .inl rfl))
          clear z0 hr hdn
          go_enter Try.func19, Try.ntmps19
          go_wp2_with (go_at_call 26; refine (knapsackref21_Set.calls k A c (rl M.l) name _ gone r _ (ref_C HM1.out rfl hl) hlc HS.out).mono ?_; rintro e w5 ⟨v0, rfl, hR5, hB5⟩; obtain ⟨A9, c9, hv0, _, _⟩ := (Rw.of51 hR5).1.form; have HP := Aside0.mk (fun n => ref_put (n := n) HM1.out HK1.out hB5 hR5 hv0); obtain ⟨d0, d1⟩ := ref_at HM1.out hB5; subst hv0; clear hR5 hB5)
          go_ret
          exact HP.out 0
        · rw [if_neg z1] at hw
          simp only [Option.some.injEq, Prod.mk.injEq] at hw
          obtain ⟨rfl, rfl⟩ := hw
          have e2 : decide (0 < M.fuse) = false := decide_eq_false z1
          have HM1 := Aside0.mk HM.out
          have HK1 := Aside0.mk HK.out
          clear z0 hr hdn
          go_enter Try.func19, Try.ntmps19
          go_wp2_with (go_at_call 26; refine (knapsackref21_Set.calls k A c (rl M.l) name _ gone r _ (ref_C HM1.out rfl hl) hlc HS.out).mono ?_; rintro e w5 ⟨v0, rfl, hR5, hB5⟩; obtain ⟨A9, c9, hv0, _, _⟩ := (Rw.of51 hR5).1.form; have HP := Aside0.mk (fun n => ref_put (n := n) HM1.out HK1.out hB5 hR5 hv0); obtain ⟨d0, d1⟩ := ref_at HM1.out hB5; subst hv0; clear hR5 hB5)
          go_ret
          exact HP.out 0
  · rw [if_neg hl] at hw
    exact absurd hw (by simp)
end Go.Proofs.Ytaibcfghokhghaa.Dk
