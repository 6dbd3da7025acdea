/- Refs: put. -/
import Derived.Test.YtklbemgepeleoaaRf10
import Derived.Test.YtklbemgepeleoaaRfb
set_option linter.unusedVariables false
set_option linter.unusedSimpArgs false
namespace Go.Proofs.Ytklbemgepeleoaa.Rf
open Go.RowKit Go.Proofs.Ytklbemgepeleoaa.Lk Go.Proofs.YtklbemgepeleoaaW.PrintWords Go.Proofs.YtklbemgepeleoaaW.PrintLast Go.Proofs.YtklbemgepeleoaaW.PrintMore
attribute [local go_sem] max2_int min2_int max_two min_two max_three min_three max_four min_four
attribute [-simp] Try.isAgg37 Try.isAgg54 Try.isAgg39
attribute [-go_sem] Instr.loadAt Instr.storeAt Instr.build Instr.buildSlice
attribute [local go_sem] loadAt9 loadAt3
set_option maxHeartbeats 1000000 in
set_option maxRecDepth 100000 in
theorem delete_none (w : World) (A : Option Addr) (c : Nat) (l : List RefE) (h : RdL w A c l) (hl : l.length ≤ 1000000) (p : Addr) (nm : ByteArray) (hp : w.cell? p = some (.string nm)) (hs : ¬ posE l nm < l.length) :
    Calls Try.prog 46 #[.slice A l.length c, .func (.func 47) #[] #[.pointer (some p)]] w fun e w' => e = .returned (.slice A l.length c) ∧ Below w.heap.size w w' := by
  have HRD := Aside0.mk h
  have HP := Aside0.mk hp
  have HBF := Aside0.mk (posE_bef l nm)
  have HAT := Aside0.mk (posE_at l nm)
  have HV := Aside0.mk (show ixE l.length (posE l nm) = -1 by unfold ixE; rw [if_neg hs])
  clear h hp hs
  go_enter Try.func46, Try.ntmps46
  go_wp2_with (go_at_call 42; refine (index47 _ _ _ _ HRD.out hl _ nm HP.out (posE l nm) (posE_le l nm) HBF.out HAT.out).mono ?_; rw [HV.out]; rintro e w5 ⟨rfl, hb5⟩; have HB5 := Aside0.mk hb5; clear hb5)
  go_ret
  exact ⟨rfl, HB5.out⟩
theorem delete_calls (w : World) (v : Value) (l : List RefE) (h : Rw w 54 33 v l.length (rcells l)) (hgd : Good32 l) (hl : l.length ≤ 1000000) (p : Addr) (nm : ByteArray) (hp : w.cell? p = some (.string nm)) (hpv : v.ownBlock ≠ some p.block) :
    Calls Try.prog 46 #[v, .func (.func 47) #[] #[.pointer (some p)]] w fun e w' => ∃ v', e = .returned v' ∧ Rw w' 54 33 v' (sansE l nm).length (rcells (sansE l nm)) ∧ w.grownBy w' v.ownBlock ∧ v'.ownBlock = v.ownBlock := by
  obtain ⟨A, c, rfl, hrd⟩ := RdL.of_rw h hgd
  by_cases hs : posE l nm < l.length
  · obtain ⟨g, off, cap, hv, hnc, _⟩ := h.form2 (by omega)
    obtain ⟨rfl, rfl⟩ : A = some ⟨g, off, none⟩ ∧ c = cap := by injection hv with h1 h2 h3; exact ⟨h1, h3⟩
    refine (delete_at w g off c l h hgd hl p nm hp (fun e => hpv (by rw [e]; rfl)) (posE l nm) hs rfl).mono ?_
    rintro e w' ⟨c', rfl, hR, hG⟩
    exact ⟨_, rfl, hR, hG, rfl⟩
  · refine (delete_none w A c l hrd hl p nm hp hs).mono ?_
    rintro e w' ⟨rfl, hb⟩
    exact ⟨_, rfl, by rw [sansE_none l nm hs]; exact rw_below h hb, ⟨hb.os, hb.tape, hb.output, hb.size, fun j hj _ => hb.block j hj⟩, rfl⟩
/-- How many names are ahead. -/
def insE (l : List RefE) (nm : ByteArray) : Nat := l.findIdx (fun x => !ltB x.1 nm)
theorem insE_le (l : List RefE) (nm : ByteArray) : insE l nm ≤ l.length := List.findIdx_le_length
theorem insE_bef (l : List RefE) (nm : ByteArray) (j : Nat) (hj : j < insE l nm) : ltB (l[j]'(by have := insE_le l nm; omega)).1 nm = true := by
  have := List.not_of_lt_findIdx (p := fun x : RefE => !ltB x.1 nm) (xs := l) hj
  simpa using this
theorem insE_at (l : List RefE) (nm : ByteArray) (h : insE l nm < l.length) : ltB l[insE l nm].1 nm = false := by
  have := List.findIdx_getElem (p := fun x : RefE => !ltB x.1 nm) (xs := l) (w := h)
  rw [Bool.not_eq_true'] at this
  exact this
def putE (l : List RefE) (nm : ByteArray) (x : List Int) : List RefE := if x = id0 then sansE l nm else (sansE l nm).take (insE (sansE l nm) nm) ++ [(nm, x)] ++ (sansE l nm).drop (insE (sansE l nm) nm)
theorem sansE_le (l : List RefE) (nm : ByteArray) : (sansE l nm).length ≤ l.length := List.length_filter_le _ _
theorem Good32.sans {l : List RefE} (h : Good32 l) (nm : ByteArray) : Good32 (sansE l nm) := fun x hx => h x (List.mem_filter.mp hx).1
/-- What is known once the name is struck. -/
structure PutI (w w4 : World) (l : List RefE) (nm : ByteArray) (x : List Int) (v : Value) : Prop where
  row : Rw w4 54 33 v (sansE l nm).length (rcells (sansE l nm))
  below : Below w.heap.size w w4
  fresh : ∀ k, v.ownBlock = some k → w.heap.size + 2 ≤ k
  name : w4.cell? ⟨w.heap.size, 0, none⟩ = some (.string nm)
  blk : w4.heap[w.heap.size + 1]? = some (.cells (idc x).toArray 37 (0, 0))
theorem PutI.load {w w4 : World} {l : List RefE} {nm : ByteArray} {x : List Int} {v : Value} (h : PutI w w4 l nm x v) (hx : x.length = 32) : (Instr.loadAt 37 (.pointer (some ⟨w.heap.size + 1, 0, none⟩))).run Try.prog w4 = .ok (.agg (idc x).toArray) w4 := by
  refine load_id hx fun j u hu => ?_
  rw [add_, Nat.zero_add, cell_of_row _ _ j _ _ _ h.blk]
  simpa using hu
theorem PutI.after {w w4 w5 : World} {l : List RefE} {nm : ByteArray} {x : List Int} {v : Value} (h : PutI w w4 l nm x v) (hb : Below w4.heap.size w4 w5) : PutI w w5 l nm x v :=
  ⟨rw_below h.row hb, h.below.trans (hb.mono h.below.size), h.fresh, pw_cell_below hb h.name, (hb.block _ (Array.getElem?_eq_some_iff.1 h.blk).1).trans h.blk⟩
abbrev w2put (w : World) (nm : ByteArray) (x : List Int) : World := (w.alloc (.cells #[.string nm] 9)).alloc (.cells (idc x).toArray 37)
theorem put_start (w : World) (nm : ByteArray) (x : List Int) : Below w.heap.size w (w2put w nm x) ∧ (w2put w nm x).heap.size = w.heap.size + 2 ∧ (w2put w nm x).cell? ⟨w.heap.size, 0, none⟩ = some (.string nm) ∧ (w2put w nm x).heap[w.heap.size + 1]? = some (.cells (idc x).toArray 37 (0, 0)) := by
  have h1 : Below w.heap.size w (w.alloc (.cells #[.string nm] 9)) := (Below.refl _ _).alloc (Nat.le_refl _) _
  refine ⟨h1.alloc (by simp) _, by simp, ?_, ?_⟩
  · refine pw_cell_below ((Below.refl _ _).alloc (Nat.le_refl _) _) ?_
    rw [cell_of_row _ _ 0 _ _ (0, 0) (heap_alloc_last w _)]
    rfl
  · have := heap_alloc_last (w.alloc (.cells #[.string nm] 9)) (.cells (idc x).toArray 37)
    simpa using this
theorem put_struck {w w3 w4 : World} {l : List RefE} {nm : ByteArray} {x : List Int} {v v' : Value} (hb3 : Below (w2put w nm x).heap.size (w2put w nm x) w3) (hf : ∀ k, v.ownBlock = some k → (w2put w nm x).heap.size ≤ k) (hR : Rw w4 54 33 v' (sansE l nm).length (rcells (sansE l nm))) (hG : w3.grownBy w4 v.ownBlock) (ho : v'.ownBlock = v.ownBlock) : PutI w w4 l nm x v' := by
  obtain ⟨s1, s2, s3, s4⟩ := put_start w nm x
  rw [s2] at hf hb3
  have hB : Below (w.heap.size + 2) (w2put w nm x) w4 := pw_below_grown hb3 v.ownBlock (by rw [← s2]; exact s2 ▸ hb3.size) hG hf
  exact ⟨hR, s1.trans (hB.mono (by omega)), by rw [ho]; exact hf, (hB.cell (p := ⟨w.heap.size, 0, none⟩) (by simp)).trans s3, (hB.block _ (by omega)).trans s4⟩
set_option maxHeartbeats 1000000 in
set_option maxRecDepth 100000 in
theorem put_zero (w : World) (A : Option Addr) (c : Nat) (l : List RefE) (h : RdL w A c l) (hl : l.length ≤ 1000000) (nm : ByteArray) (x : List Int) (hx : x.length = 32) (hx0 : decide (x = id0) = true) :
    Calls Try.prog 37 #[.slice A l.length c, .string nm, idv x] w fun e w' => ∃ v', e = .returned v' ∧ Rw w' 54 33 v' (sansE l nm).length (rcells (sansE l nm)) ∧ Below w.heap.size w w' := by
  obtain ⟨s1, s2, s3, s4⟩ := put_start w nm x
  have HR := Aside0.mk (h.below s1)
  have HGD := Aside0.mk h.good
  have S2 := Aside0.mk s2
  have S3 := Aside0.mk s3
  have HX := Aside0.mk hx
  have HX0 := Aside0.mk hx0
  clear h s1 s2 s3 s4 hx hx0
  go_enter Try.func37, Try.ntmps37
  go_wp2_with (first | (go_at_call 23; refine (clone_calls _ _ _ _ HR.out hl).mono ?_; rintro e w3 ⟨v, rfl, hR3, hb3, hf3⟩; have HR3 := Aside0.mk hR3; have HB3 := Aside0.mk hb3; have HF3 := Aside0.mk hf3; clear hR3 hb3 hf3) | (go_at_call 46; refine (delete_calls _ _ l HR3.out HGD.out hl _ nm (pw_cell_below HB3.out S3.out) (fun e => by have h1 := HF3.out _ e; have h2 := S2.out; simp only [] at h1; omega)).mono ?_; rintro e w4 ⟨v', rfl, hR4, hG4, ho4⟩; have HI := Aside0.mk (put_struck HB3.out HF3.out hR4 hG4 ho4); have hld := HI.out.load HX.out; clear hR4 hG4 ho4) | (go_at_call 27; refine (none_calls x HX.out _).mono ?_; rw [HX0.out]; rintro e w5 ⟨rfl, hb5⟩; have HI5 := Aside0.mk (HI.out.after hb5); clear hb5))
  go_ret
  exact ⟨_, rfl, HI5.out.row, HI5.out.below⟩
theorem rcells_ins {M : List RefE} (hM : Good32 M) (k : Nat) (e : RefE) : rcells (M.take k ++ [e] ++ M.drop k) = (rcells M).take (k * 33) ++ rcell e ++ (rcells M).drop (k * 33) := by
  rw [rcells_append, rcells_append, rcells_take M hM, rcells_drop M hM]
  simp [rcells]
theorem put_insert {w w6 : World} {l M : List RefE} {nm : ByteArray} {x : List Int} {v : Value} (h : PutI w w6 l nm x v) (hM : sansE l nm = M) (hx : x.length = 32) (hgd : Good32 M) (k : Nat) (hk : k ≤ M.length) (hl : M.length ≤ 1000000) :
    Calls Try.prog 48 #[v, .int .i64 (k : Int), .slice (some ⟨w6.heap.size, 0, none⟩) 1 1] (w6.alloc (.cells (.string nm :: idc x).toArray 54)) fun e w' => ∃ v', e = .returned v' ∧ Rw w' 54 33 v' (M.length + 1) (rcells (M.take k ++ [(nm, x)] ++ M.drop k)) ∧ Below w.heap.size w w' := by
  subst hM
  have hl' := rcell_length (x := (nm, x)) hx
  have hlt := fun j => h.row.lt j
  refine (Sl2.insert_calls (w6.alloc (.cells (.string nm :: idc x).toArray 54)) (sansE l nm).length k w6.heap.size v (rcells (sansE l nm)) (rcell (nm, x)).toArray (h.row.alloc _) hk (heap_alloc_last w6 _) (fun e => by have := hlt _ e; omega) (by simp [hl']) (rcells_one _) (fun u hu => rcell_one _ u (by simpa using hu)) hl).mono ?_
  rintro e w' ⟨v', rfl, hR, hG, _⟩
  refine ⟨v', rfl, ?_, ?_⟩
  · rw [rcells_ins hgd]
    simpa using hR
  · have hb := h.below.alloc h.below.size (.cells (.string nm :: idc x).toArray 54)
    exact pw_below_grown hb v.ownBlock hb.size hG (fun k hk => by have := h.fresh k hk; omega)
set_option maxHeartbeats 1000000 in
set_option maxRecDepth 100000 in
theorem put_some (w : World) (A : Option Addr) (c : Nat) (l : List RefE) (h : RdL w A c l) (hl : l.length ≤ 1000000) (nm : ByteArray) (x : List Int) (hx : x.length = 32) (hx0 : decide (x = id0) = false) (M : List RefE) (hM : sansE l nm = M) (s : Nat) (hs : insE M nm = s) :
    Calls Try.prog 37 #[.slice A l.length c, .string nm, idv x] w fun e w' => ∃ v', e = .returned v' ∧ Rw w' 54 33 v' (M.length + 1) (rcells (M.take s ++ [(nm, x)] ++ M.drop s)) ∧ Below w.heap.size w w' := by
  obtain ⟨s1, s2, s3, s4⟩ := put_start w nm x
  have HR := Aside0.mk (h.below s1)
  have HGD := Aside0.mk h.good
  have S2 := Aside0.mk s2
  have S3 := Aside0.mk s3
  have HX := Aside0.mk hx
  have HX0 := Aside0.mk hx0
  have HM := Aside0.mk hM
  have HS := Aside0.mk hs
  have hsl : s ≤ M.length := by rw [← hs]; exact insE_le M nm
  have hMl : M.length ≤ 1000000 := by rw [← hM]; exact Nat.le_trans (sansE_le l nm) hl
  clear h s1 s2 s3 s4 hx hx0 hM hs
  go_enter Try.func37, Try.ntmps37
  go_wp2_with (first | (go_at_call 23; refine (clone_calls _ _ _ _ HR.out hl).mono ?_; rintro e w3 ⟨v, rfl, hR3, hb3, hf3⟩; have HR3 := Aside0.mk hR3; have HB3 := Aside0.mk hb3; have HF3 := Aside0.mk hf3; clear hR3 hb3 hf3) | (go_at_call 46; refine (delete_calls _ _ l HR3.out HGD.out hl _ nm (pw_cell_below HB3.out S3.out) (fun e => by have h1 := HF3.out _ e; have h2 := S2.out; simp only [] at h1; omega)).mono ?_; rintro e w4 ⟨v', rfl, hR4, hG4, ho4⟩; have HI := Aside0.mk (put_struck HB3.out HF3.out hR4 hG4 ho4); have hld := HI.out.load HX.out; have hR4b := HM.out ▸ hR4; obtain ⟨A2, c2, hv2, hrd2⟩ := RdL.of_rw hR4b (HM.out ▸ HGD.out.sans nm); subst hv2; have HRD2 := Aside0.mk hrd2; clear hR4 hG4 ho4 hR4b hrd2) | (go_at_call 27; refine (none_calls x HX.out _).mono ?_; rw [HX0.out]; rintro e w5 ⟨rfl, hb5⟩; have HI5 := Aside0.mk (HI.out.after hb5); have HRD5 := Aside0.mk (HRD2.out.below hb5); clear hb5))
  go_loopw [8] (fun v8 w' => ∃ k : Nat, v8 = .int .i64 (k : Int) ∧ k ≤ s ∧ Aside0 (Below w5.heap.size w5 w')) (fun v8 _ => M.length - (intOf v8).toNat)
  case atStart => exact ⟨0, rfl, Nat.zero_le _, ⟨Below.refl _ _⟩⟩
  case round =>
    obtain ⟨k, rfl, hk, HB⟩ := hrel
    have hn := (HI5.out.after HB.out).name
    by_cases hlt : k < s
    · have hlt2 : k < M.length := by omega
      have e1 : decide (k < M.length) = true := decide_eq_true hlt2
      have e3 : (0 : Int) ≤ (k : Int) := by omega
      have e4 : (k : Int) < (M.length : Int) := by omega
      obtain ⟨a, rfl, y1⟩ := (HRD5.out.below HB.out).name k hlt2
      have hb : ltB M[k].1 nm = true := insE_bef M nm k (by rw [HS.out]; exact hlt)
      obtain ⟨nx, hnx⟩ : ∃ nx, M[k].1 = nx := ⟨_, rfl⟩
      rw [hnx] at y1 hb
      change Op.bytesLess nx.toList nm.toList = true at hb
      clear hnx hlt2
      go_wp2
      go_quiet (fail)
      go_wp2
      go_roundw
      case rel => exact ⟨k + 1, by go_num, by omega, ⟨pw_below_drewN HB.out _⟩⟩
      case measure => simp [intOf]; omega
    · obtain rfl : k = s := by omega
      clear hlt
      by_cases hlt2 : k < M.length
      · have e1 : decide (k < M.length) = true := decide_eq_true hlt2
        have e3 : (0 : Int) ≤ (k : Int) := by omega
        have e4 : (k : Int) < (M.length : Int) := by omega
        obtain ⟨a, rfl, y1⟩ := (HRD5.out.below HB.out).name k hlt2
        have hb : ltB M[k].1 nm = false := by
          have := HS.out
          subst this
          exact insE_at M nm hlt2
        obtain ⟨nx, hnx⟩ : ∃ nx, M[k].1 = nx := ⟨_, rfl⟩
        rw [hnx] at y1 hb
        change Op.bytesLess nx.toList nm.toList = false at hb
        clear hnx
        go_wp2
        go_quiet (fail)
        have HI6 := Aside0.mk (HI5.out.after (pw_below_drewN HB.out nq))
        have hld6 := HI6.out.load HX.out
        have hbr := fun W => build_ref nm x HX.out W
        have hbs := fun W => build_row nm x HX.out W
        have HIN := Aside0.mk (put_insert HI6.out HM.out HX.out (HM.out ▸ HGD.out.sans nm) k hsl hMl)
        go_wp2_with (go_at_call 48; refine HIN.out.mono ?_; rintro e w7 ⟨v7, rfl, hR7, hB7⟩; have HR7 := Aside0.mk hR7; have HB7 := Aside0.mk hB7; clear hR7 hB7)
        go_ret
        exact ⟨_, rfl, HR7.out, HB7.out⟩
      · have e1 : decide (k < M.length) = false := decide_eq_false hlt2
        clear hlt2
        go_wp2
        go_quiet (fail)
        have HI6 := Aside0.mk (HI5.out.after (pw_below_drewN HB.out nq))
        have hld6 := HI6.out.load HX.out
        have hbr := fun W => build_ref nm x HX.out W
        have hbs := fun W => build_row nm x HX.out W
        have HIN := Aside0.mk (put_insert HI6.out HM.out HX.out (HM.out ▸ HGD.out.sans nm) k hsl hMl)
        go_wp2_with (go_at_call 48; refine HIN.out.mono ?_; rintro e w7 ⟨v7, rfl, hR7, hB7⟩; have HR7 := Aside0.mk hR7; have HB7 := Aside0.mk hB7; clear hR7 hB7)
        go_ret
        exact ⟨_, rfl, HR7.out, HB7.out⟩
theorem putE_length (l : List RefE) (nm : ByteArray) (x : List Int) : (putE l nm x).length = if x = id0 then (sansE l nm).length else (sansE l nm).length + 1 := by
  have := insE_le (sansE l nm) nm
  unfold putE
  split
  · rfl
  · simp; omega
theorem Good32.put {l : List RefE} (h : Good32 l) (nm : ByteArray) {x : List Int} (hx : x.length = 32) : Good32 (putE l nm x) := fun y hy => by
  unfold putE at hy
  split at hy
  · exact h.sans nm y hy
  · rcases List.mem_append.mp hy with hy | hy
    · rcases List.mem_append.mp hy with hy | hy
      · exact h.sans nm y (List.mem_of_mem_take hy)
      · rw [List.mem_singleton.mp hy]; exact hx
    · exact h.sans nm y (List.mem_of_mem_drop hy)
/-- put. -/
theorem put_calls (w : World) (A : Option Addr) (c : Nat) (l : List RefE) (h : RdL w A c l) (hl : l.length ≤ 1000000) (nm : ByteArray) (x : List Int) (hx : x.length = 32) :
    Calls Try.prog 37 #[.slice A l.length c, .string nm, idv x] w fun e w' => ∃ v', e = .returned v' ∧ Rw w' 54 33 v' (putE l nm x).length (rcells (putE l nm x)) ∧ Below w.heap.size w w' := by
  by_cases h0 : x = id0
  · have e : putE l nm x = sansE l nm := by unfold putE; rw [if_pos h0]
    rw [e]
    exact put_zero w A c l h hl nm x hx (decide_eq_true h0)
  · have e : putE l nm x = (sansE l nm).take (insE (sansE l nm) nm) ++ [(nm, x)] ++ (sansE l nm).drop (insE (sansE l nm) nm) := by unfold putE; rw [if_neg h0]
    have el := putE_length l nm x
    rw [if_neg h0] at el
    rw [el, e]
    exact put_some w A c l h hl nm x hx (decide_eq_false h0) _ rfl _ rfl
end Go.Proofs.Ytklbemgepeleoaa.Rf
