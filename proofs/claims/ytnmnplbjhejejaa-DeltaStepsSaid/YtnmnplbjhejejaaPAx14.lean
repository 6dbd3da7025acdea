-- Written by a turned copy of the printer (wip/patchprint.py of this repo), with contracts of this session beside; Lean checks it.
import Derived.Test.YtnmnplbjhejejaaPAx0
import Derived.Test.YtnmnplbjhejejaaPAx5
import Derived.Test.YtnmnplbjhejejaaPAx9
import Derived.Test.YtnmnplbjhejejaaPAx10
namespace Go.Proofs.Ytnmnplbjhejejaa.PA
open Go.RowKit Go.Proofs.YtnmnplbjhejejaaW.PrintWords Go.Proofs.YtnmnplbjhejejaaW.PrintLast Go.Proofs.YtnmnplbjhejejaaW.PrintMore
attribute [local go_sem] max2_int min2_int max_two min_two max_three min_three max_four min_four   -- for this text's walks alone
set_option linter.unusedVariables false
set_option linter.unusedSimpArgs false

/-! ### knapsackref06_Delta: function 32 -/
def knapsackref06_Delta.l0 : Nat → List (S51) → ByteArray → Int → Option (ByteArray)
  | 0, _, _, _ => none
  | k + 1, x2, x7, x8 => if x8 < (x2.length : Int) then (if 0 ≤ x8 then (if ((rd_T51 x2 x8).f2).toList = ([] : List UInt8) then ((knapsackref01_Put.f k (IntKind.u64.wrap (wrap64 ((wrap64 (2 * (Int.tmod ((rd_T51 x2 x8).f1) 100000))) + 1)))).bind fun t298 => (if x7.size + t298.size ≤ 9223372036854775807 then ((knapsackref01_Put.f k (IntKind.u64.wrap ((rd_T51 x2 x8).f0))).bind fun t300 => (if (x7 ++ t298).size + t300.size ≤ 9223372036854775807 then (knapsackref06_Delta.l0 k x2 ((x7 ++ t298) ++ t300) (wrap64 (x8 + 1))) else (none))) else (none))) else ((knapsackref01_Put.f k (IntKind.u64.wrap (wrap64 (2 * (((rd_T51 x2 x8).f2).size : Int))))).bind fun t302 => (if x7.size + t302.size ≤ 9223372036854775807 then (if (x7 ++ t302).size + ((rd_T51 x2 x8).f2).size ≤ 9223372036854775807 then (knapsackref06_Delta.l0 k x2 ((x7 ++ t302) ++ ((rd_T51 x2 x8).f2)) (wrap64 (x8 + 1))) else (none)) else (none)))) else (none)) else (some x7)
def knapsackref06_Delta.f (k : Nat) (a0 : Int) (a1 : Int) (l2 : List (S51)) : Option (ByteArray) := (knapsackref01_Put.f k (IntKind.u64.wrap (a0))).bind fun t294 => ((knapsackref01_Put.f k (IntKind.u64.wrap (a1))).bind fun t295 => (if t294.size + t295.size ≤ 9223372036854775807 then (knapsackref06_Delta.l0 k l2 (t294 ++ t295) 0) else (none)))
theorem knapsackref06_Delta.mono_l : ∀ k, (∀ y0 y1 y2, LeO (knapsackref06_Delta.l0 k y0 y1 y2) (knapsackref06_Delta.l0 (k + 1) y0 y1 y2))
  | 0 => fun _ _ _ r h => by simp [knapsackref06_Delta.l0] at h
  | k + 1 => by
    have ih0 := knapsackref06_Delta.mono_l k
    · intro y0 y1 y2
      unfold knapsackref06_Delta.l0
      repeat' first
      | (with_reducible exact ih0 _ _ _)
      | (with_reducible exact knapsackref01_Put.mono _ _)
      | (with_reducible exact LeO.refl _)
      | (with_reducible exact LeO.none _)
      | (with_reducible refine LeO.ite ?_ ?_)
      | (with_reducible refine LeO.bind ?_ (fun _ => ?_))
      | exact ih0 _ _ _
      | exact knapsackref01_Put.mono _ _
      | exact LeO.none _
      | refine LeO.ite ?_ ?_
      | refine LeO.bind ?_ (fun _ => ?_)
theorem knapsackref06_Delta.mono : ∀ a0 a1 a2 k, LeO (knapsackref06_Delta.f k a0 a1 a2) (knapsackref06_Delta.f (k + 1) a0 a1 a2) := by
  intro a0 a1 a2 k
  have ih0 := knapsackref06_Delta.mono_l k
  unfold knapsackref06_Delta.f
  repeat' first
      | (with_reducible exact ih0 _ _ _)
      | (with_reducible exact knapsackref01_Put.mono _ _)
      | (with_reducible exact LeO.refl _)
      | (with_reducible exact LeO.none _)
      | (with_reducible refine LeO.ite ?_ ?_)
      | (with_reducible refine LeO.bind ?_ (fun _ => ?_))
      | exact ih0 _ _ _
      | exact knapsackref01_Put.mono _ _
      | exact LeO.none _
      | refine LeO.ite ?_ ?_
      | refine LeO.bind ?_ (fun _ => ?_)
def knapsackref06_Delta.T6 : Bool × List (List Nat × List Nat) := (true, [([], []), ([], []), ([], []), ([1, 2], [1, 2]), ([3], [3]), ([4], [4]), ([5], [5]), ([6], [6]), ([7], [7]), ([8], [8]), ([0, 9], [0, 9]), ([], []), ([], []), ([11, 12], [11, 12]), ([13], [13]), ([14], [14]), ([10, 15], [10, 15]), ([16, 9, 0, 1, 2, 3, 4, 5, 6, 7, 8, 9, 10, 11, 12, 13, 14, 15, 16], [0, 16])])
def knapsackref06_Delta.B6 : List Nat := [0, 0, 0, 6, 14, 30, 62, 126, 254, 510, 1023, 0, 0, 6144, 14336, 30720, 65535, 131071]
theorem knapsackref06_Delta.tab6 : rtab .any (opsOf Try.f32 6) = knapsackref06_Delta.T6 := by kernel_rfl
theorem knapsackref06_Delta.bits6 : waitsOk knapsackref06_Delta.T6.2 knapsackref06_Delta.B6 = true := by kernel_rfl
def knapsackref06_Delta.T7 : Bool × List (List Nat × List Nat) := (true, [([], []), ([], []), ([], []), ([1, 2], [1, 2]), ([3], [3]), ([4], [4]), ([5], [5]), ([6], [6]), ([7], [7]), ([8], [8]), ([9], [9]), ([0, 10], [0, 10]), ([], []), ([], []), ([12, 13], [12, 13]), ([14], [14]), ([15], [15]), ([16], [16]), ([17, 10], [17]), ([11, 18], [11, 18]), ([19, 18, 0, 1, 2, 3, 4, 5, 6, 7, 8, 9, 10, 11, 12, 13, 14, 15, 16, 17, 18, 19], [0, 19])])
def knapsackref06_Delta.B7 : List Nat := [0, 0, 0, 6, 14, 30, 62, 126, 254, 510, 1022, 2047, 0, 0, 12288, 28672, 61440, 126976, 260094, 524287, 1048575]
theorem knapsackref06_Delta.tab7 : rtab .any (opsOf Try.f32 7) = knapsackref06_Delta.T7 := by kernel_rfl
theorem knapsackref06_Delta.bits7 : waitsOk knapsackref06_Delta.T7.2 knapsackref06_Delta.B7 = true := by kernel_rfl
set_option maxHeartbeats 8000000 in
set_option maxRecDepth 100000 in
theorem knapsackref06_Delta.calls (k : Nat) (a0 : Int) (a1 : Int) (A2 : Option Addr) (c2 : Nat) (l2 : List (S51)) (r : ByteArray) (w : World) (hr2 : Kd.C k51 w A2 l2.length l2) (hc2 : l2.length ≤ c2) (h : knapsackref06_Delta.f k a0 a1 l2 = some r) :
    Calls Try.prog 32 #[.int .i64 a0, .int .i64 a1, .slice A2 l2.length c2] w fun e w' => e = .returned (.string r) ∧ Below w.heap.size w w' := by
  have HR2 := Aside0.mk hr2
  have HC2 := Aside0.mk hc2
  clear hr2 hc2
  have HB := Aside0.mk (Below.refl w.heap.size w)
  have H : ((knapsackref01_Put.f k (IntKind.u64.wrap (a0))).bind fun t294 => ((knapsackref01_Put.f k (IntKind.u64.wrap (a1))).bind fun t295 => (if t294.size + t295.size ≤ 9223372036854775807 then (knapsackref06_Delta.l0 k l2 (t294 ++ t295) 0) else (none)))) = some r := h
  clear h
  replace H := Option.bind_eq_some_iff.mp H
  obtain ⟨t294, A40, H⟩ := H
  replace H : ((knapsackref01_Put.f k (IntKind.u64.wrap (a1))).bind fun t295 => (if t294.size + t295.size ≤ 9223372036854775807 then (knapsackref06_Delta.l0 k l2 (t294 ++ t295) 0) else (none))) = some r := H
  have A4 := Aside0.mk A40
  clear A40
  replace H := Option.bind_eq_some_iff.mp H
  obtain ⟨t295, A50, H⟩ := H
  replace H : (if t294.size + t295.size ≤ 9223372036854775807 then (knapsackref06_Delta.l0 k l2 (t294 ++ t295) 0) else (none)) = some r := H
  have A5 := Aside0.mk A50
  clear A50
  by_cases c6 : t294.size + t295.size ≤ 9223372036854775807
  · rw [if_pos c6] at H
    have c6b1 : decide (t294.size + t295.size ≤ 9223372036854775807) = true := decide_eq_true c6
    try have c6b2 : (9223372036854775807 < t294.size + t295.size) = False := eq_false (Nat.not_lt.2 c6)
    clear c6
    have H' := Aside0.mk H
    clear H
    go_enter Try.func32, Try.ntmps32
    go_wp2_with (first | ((with_reducible refine gate_callee (f := 20) rfl ?_); refine goesL_ (some 11) rfl rfl Try.func20 (by kernel_rfl) rfl #[.int .u64 (IntKind.u64.wrap (a0))] rfl (by (try simp only [List.map_toArray, List.map_cons, List.map_nil]); first | done | rfl | (simp only [List.length_drop, List.length_take]; rfl)) ?_; (with_reducible refine (knapsackref01_Put.calls k (IntKind.u64.wrap (a0)) t294 _ A4.out).mono ?_); rintro e w7 ⟨rfl, hb⟩; refine ⟨_, rfl, ?_⟩; have n0_ := Aside0.mk (below_step (by repeat (first | (with_reducible first | exact HB.out | apply below_alloc | apply pw_below_drewN | apply below_drew1) | exact HB.out)) hb); clear HB; have HB := n0_; clear n0_; (try clear hb); (try clear hb2); (try clear hk); (try clear hi)) | ((with_reducible refine gate_callee (f := 20) rfl ?_); refine goesL_ (some 14) rfl rfl Try.func20 (by kernel_rfl) rfl #[.int .u64 (IntKind.u64.wrap (a1))] rfl (by (try simp only [List.map_toArray, List.map_cons, List.map_nil]); first | done | rfl | (simp only [List.length_drop, List.length_take]; rfl)) ?_; (with_reducible refine (knapsackref01_Put.calls k (IntKind.u64.wrap (a1)) t295 _ A5.out).mono ?_); rintro e w8 ⟨rfl, hb⟩; refine ⟨_, rfl, ?_⟩; have n0_ := Aside0.mk (below_step (by repeat (first | (with_reducible first | exact HB.out | apply below_alloc | apply pw_below_drewN | apply below_drew1) | exact HB.out)) hb); clear HB; have HB := n0_; clear n0_; (try clear hb); (try clear hb2); (try clear hk); (try clear hi)))
    go_loopg [7, 8] k (fun kq v7 v8 w' => ∃ (x7_1 : ByteArray) (x8_1 : Int), v7 = .string x7_1 ∧ v8 = .int .i64 x8_1 ∧ Aside0 (knapsackref06_Delta.l0 kq l2 x7_1 x8_1 = some r) ∧ Aside0 (kq ≤ k) ∧ Aside0 (Below w.heap.size w w'))
    case atStart => exact ⟨(t294 ++ t295), (0), (by first | rfl | (simp; done) | (simp; omega) | (simp [*]; done)), (by first | rfl | (simp; done) | (simp; omega) | (simp [*]; done)), H', ⟨Nat.le_refl _⟩, ⟨by repeat (first | (with_reducible first | exact HB.out | apply below_alloc | apply pw_below_drewN | apply below_drew1) | exact HB.out)⟩⟩
    case round =>
      clear H'
      try clear c2
      try clear p2
      try clear c3
      try clear c6
      try clear c6b1
      try clear c6b2
      obtain ⟨x7_1, x8_1, rfl, rfl, HA, HK1, HB⟩ := hrel
      cases gk with
      | zero => exact absurd HA.out (by simp [knapsackref06_Delta.l0])
      | succ k1 =>
        have H := HA.out
        clear HA
        simp only [knapsackref06_Delta.l0] at H
        by_cases c9 : x8_1 < (l2.length : Int)
        · rw [if_pos c9] at H
          have c9b0 : decide (x8_1 < (l2.length : Int)) = true := decide_eq_true c9
          clear c9
          by_cases c10 : 0 ≤ x8_1
          · rw [if_pos c10] at H
            have c10b0 : decide (0 ≤ x8_1) = true := decide_eq_true c10
            clear c10
            by_cases c11 : ((rd_T51 l2 x8_1).f2).toList = ([] : List UInt8)
            · rw [if_pos c11] at H
              have c11b0 : (((rd_T51 l2 x8_1).f2).toList == ([] : List UInt8)) = true := beq_iff_eq.mpr c11
              have c11b1 : (((rd_T51 l2 x8_1).f2).toList != ([] : List UInt8)) = false := bne_eq_false_iff_eq.mpr c11
              clear c11
              replace H := Option.bind_eq_some_iff.mp H
              obtain ⟨t298, A120, H⟩ := H
              replace H : (if x7_1.size + t298.size ≤ 9223372036854775807 then ((knapsackref01_Put.f k1 (IntKind.u64.wrap ((rd_T51 l2 x8_1).f0))).bind fun t300 => (if (x7_1 ++ t298).size + t300.size ≤ 9223372036854775807 then (knapsackref06_Delta.l0 k1 l2 ((x7_1 ++ t298) ++ t300) (wrap64 (x8_1 + 1))) else (none))) else (none)) = some r := H
              have A12 := Aside0.mk A120
              clear A120
              by_cases c13 : x7_1.size + t298.size ≤ 9223372036854775807
              · rw [if_pos c13] at H
                have c13b1 : decide (x7_1.size + t298.size ≤ 9223372036854775807) = true := decide_eq_true c13
                try have c13b2 : (9223372036854775807 < x7_1.size + t298.size) = False := eq_false (Nat.not_lt.2 c13)
                clear c13
                replace H := Option.bind_eq_some_iff.mp H
                obtain ⟨t300, A140, H⟩ := H
                replace H : (if (x7_1 ++ t298).size + t300.size ≤ 9223372036854775807 then (knapsackref06_Delta.l0 k1 l2 ((x7_1 ++ t298) ++ t300) (wrap64 (x8_1 + 1))) else (none)) = some r := H
                have A14 := Aside0.mk A140
                clear A140
                by_cases c15 : (x7_1 ++ t298).size + t300.size ≤ 9223372036854775807
                · rw [if_pos c15] at H
                  have c15b1 : decide ((x7_1 ++ t298).size + t300.size ≤ 9223372036854775807) = true := decide_eq_true c15
                  try have c15b2 : (9223372036854775807 < (x7_1 ++ t298).size + t300.size) = False := eq_false (Nat.not_lt.2 c15)
                  (try have c15nb2 := c15b2)
                  (first | simp only [ByteArray.size_append, ByteArray.size_extract, Nat.sub_zero, Nat.min_self, Int.natCast_add] at c15nb2 | clear c15nb2 | skip)
                  clear c15
                  have H' := Aside0.mk H
                  clear H
                  have p296 : 0 ≤ (x8_1 : Int) := of_decide_eq_true (by first | (with_reducible assumption) | assumption)
                  have q296 : x8_1 < (l2.length : Int) := of_decide_eq_true (by first | (with_reducible assumption) | assumption)
                  obtain ⟨ad296, e296, hx296_0, hx296_1, hx296_2⟩ := at_T51 HR2.out x8_1 p296 q296
                  cases e296
                  replace hx296_0 := (HB.out.cell (World.block_lt_of_cell? w _ hx296_0)).trans hx296_0
                  replace hx296_1 := (HB.out.cell (World.block_lt_of_cell? w _ hx296_1)).trans hx296_1
                  replace hx296_2 := (HB.out.cell (World.block_lt_of_cell? w _ hx296_2)).trans hx296_2
                  replace p296 := eq_true p296
                  replace q296 := eq_true q296
                  try go_wp2
                  have n0_ := Aside0.mk (below_drew1 HB.out)
                  clear HB
                  have HB := n0_
                  clear n0_
                  have p297 : 0 ≤ (x8_1 : Int) := of_decide_eq_true (by first | (with_reducible assumption) | assumption)
                  have q297 : x8_1 < (l2.length : Int) := of_decide_eq_true (by first | (with_reducible assumption) | assumption)
                  obtain ⟨ad297, e297, hx297_0, hx297_1, hx297_2⟩ := at_T51 HR2.out x8_1 p297 q297
                  have hw297_2 := hx297_2
                  have hw297_1 := hx297_1
                  have hw297_0 := hx297_0
                  obtain rfl : ad296 = ad297 := (by injection e297)
                  replace hx297_0 := (HB.out.cell (World.block_lt_of_cell? w _ hx297_0)).trans hx297_0
                  replace hx297_1 := (HB.out.cell (World.block_lt_of_cell? w _ hx297_1)).trans hx297_1
                  replace hx297_2 := (HB.out.cell (World.block_lt_of_cell? w _ hx297_2)).trans hx297_2
                  replace p297 := eq_true p297
                  replace q297 := eq_true q297
                  have p299 : 0 ≤ (x8_1 : Int) := of_decide_eq_true (by first | (with_reducible assumption) | assumption)
                  have q299 : x8_1 < (l2.length : Int) := of_decide_eq_true (by first | (with_reducible assumption) | assumption)
                  obtain ⟨ad299, e299, hx299_0, hx299_1, hx299_2⟩ := at_T51 HR2.out x8_1 p299 q299
                  have hw299_2 := hx299_2
                  have hw299_1 := hx299_1
                  have hw299_0 := hx299_0
                  obtain rfl : ad296 = ad299 := (by injection e299)
                  replace hx299_0 := (HB.out.cell (World.block_lt_of_cell? w _ hx299_0)).trans hx299_0
                  replace hx299_1 := (HB.out.cell (World.block_lt_of_cell? w _ hx299_1)).trans hx299_1
                  replace hx299_2 := (HB.out.cell (World.block_lt_of_cell? w _ hx299_2)).trans hx299_2
                  replace p299 := eq_true p299
                  replace q299 := eq_true q299
                  refine start_ (n := 21) (S := fun w' => w'.cell? (ad296.add ((x8_1).toNat * 3)) = some (.int .i64 ((rd_T51 l2 x8_1).f0)) ∧ w'.cell? ⟨(ad296.add ((x8_1).toNat * 3)).block, (ad296.add ((x8_1).toNat * 3)).off + 1, none⟩ = some (.int .i64 ((rd_T51 l2 x8_1).f1)) ∧ w'.cell? ⟨(ad296.add ((x8_1).toNat * 3)).block, (ad296.add ((x8_1).toNat * 3)).off + 2, none⟩ = some (.string ((rd_T51 l2 x8_1).f2)) ∧ w'.cell? (ad296.add ((x8_1).toNat * 3)) = some (.int .i64 ((rd_T51 l2 x8_1).f0)) ∧ w'.cell? ⟨(ad296.add ((x8_1).toNat * 3)).block, (ad296.add ((x8_1).toNat * 3)).off + 1, none⟩ = some (.int .i64 ((rd_T51 l2 x8_1).f1)) ∧ w'.cell? ⟨(ad296.add ((x8_1).toNat * 3)).block, (ad296.add ((x8_1).toNat * 3)).off + 2, none⟩ = some (.string ((rd_T51 l2 x8_1).f2))) (ds := []) #[false, false, false, false, false, false, false, false, false, false, false, false, false, false, false, false, false, false, false, false, false] (by kernel_rfl) rfl rfl ⟨((HB.out.cell (World.block_lt_of_cell? w _ hw297_0)).trans hw297_0), ((HB.out.cell (World.block_lt_of_cell? w _ hw297_1)).trans hw297_1), ((HB.out.cell (World.block_lt_of_cell? w _ hw297_2)).trans hw297_2), ((HB.out.cell (World.block_lt_of_cell? w _ hw299_0)).trans hw299_0), ((HB.out.cell (World.block_lt_of_cell? w _ hw299_1)).trans hw299_1), ((HB.out.cell (World.block_lt_of_cell? w _ hw299_2)).trans hw299_2)⟩ (fun hHeld => ?_); refine with_tabW knapsackref06_Delta.tab7 knapsackref06_Delta.bits7 (fun HT_ HW_ => ?_)
                  generalize wr.drew = w16 at HB hx297_0 hx297_1 hx297_2 hx299_0 hx299_1 hx299_2 hHeld ⊢
                  refine pure_ (i := 0) (N := some 45) (v := ?_) (a' := ?_) #[true, false, false, false, false, false, false, false, false, false, false, false, false, false, false, false, false, false, false, false, false] rfl rfl (any_of HT_.out (by kernel_rfl)) (fun _ _ _ h => h) (Or.inl ⟨by rfl, ?_⟩) ?_ ?_
                  rotate_left
                  · intro w'
                    go_simp
                    with_reducible rfl
                  rotate_left
                  · simp only [Act.put, List.setIfInBounds_toArray, List.set_cons_zero, List.set_cons_succ, i64_w, i32_w]
                    rfl
                  refine pure_ (i := 1) (N := some 46) (v := ?_) (a' := ?_) #[true, true, false, false, false, false, false, false, false, false, false, false, false, false, false, false, false, false, false, false, false] rfl rfl (any_of HT_.out (by kernel_rfl)) (fun _ _ _ h => h) (Or.inl ⟨by rfl, ?_⟩) ?_ ?_
                  rotate_left
                  · intro w'
                    go_simp
                    with_reducible rfl
                  rotate_left
                  · simp only [Act.put, List.setIfInBounds_toArray, List.set_cons_zero, List.set_cons_succ, i64_w, i32_w]
                    rfl
                  refine pure_ (i := 2) (N := some 47) (v := ?_) (a' := ?_) #[true, true, true, false, false, false, false, false, false, false, false, false, false, false, false, false, false, false, false, false, false] rfl rfl (any_of HT_.out (by kernel_rfl)) (fun _ _ _ h => h) (Or.inl ⟨by rfl, ?_⟩) ?_ ?_
                  rotate_left
                  · intro w'
                    go_simp
                    with_reducible rfl
                  rotate_left
                  · simp only [Act.put, List.setIfInBounds_toArray, List.set_cons_zero, List.set_cons_succ, i64_w, i32_w]
                    rfl
                  refine pure_ (i := 3) (N := some 48) (v := ?_) (a' := ?_) #[true, true, true, true, false, false, false, false, false, false, false, false, false, false, false, false, false, false, false, false, false] rfl rfl (any_of HT_.out (by kernel_rfl)) (fun _ _ _ h => h) (Or.inl ⟨by rfl, ?_⟩) ?_ ?_
                  rotate_left
                  · intro w'
                    go_simp
                    with_reducible rfl
                  rotate_left
                  · simp only [Act.put, List.setIfInBounds_toArray, List.set_cons_zero, List.set_cons_succ, i64_w, i32_w]
                    rfl
                  refine pure_ (i := 4) (N := some 49) (v := ?_) (a' := ?_) #[true, true, true, true, true, false, false, false, false, false, false, false, false, false, false, false, false, false, false, false, false] rfl rfl (any_of HT_.out (by kernel_rfl)) (fun _ _ _ h => h) (Or.inl ⟨by rfl, ?_⟩) ?_ ?_
                  rotate_left
                  · intro w'
                    go_simp
                    with_reducible rfl
                  rotate_left
                  · simp only [Act.put, List.setIfInBounds_toArray, List.set_cons_zero, List.set_cons_succ, i64_w, i32_w]
                    rfl
                  refine pure_ (i := 12) (N := some 57) (v := ?_) (a' := ?_) #[true, true, true, true, true, false, false, false, false, false, false, false, true, false, false, false, false, false, false, false, false] rfl rfl (any_of HT_.out (by kernel_rfl)) (fun _ _ _ h => h) (Or.inl ⟨by rfl, ?_⟩) ?_ ?_
                  rotate_left
                  · intro w'
                    go_simp
                    with_reducible rfl
                  rotate_left
                  · simp only [Act.put, List.setIfInBounds_toArray, List.set_cons_zero, List.set_cons_succ, i64_w, i32_w]
                    rfl
                  refine pure_ (i := 13) (N := some 58) (v := ?_) (a' := ?_) #[true, true, true, true, true, false, false, false, false, false, false, false, true, true, false, false, false, false, false, false, false] rfl rfl (any_of HT_.out (by kernel_rfl)) (fun _ _ _ h => h) (Or.inl ⟨by rfl, ?_⟩) ?_ ?_
                  rotate_left
                  · intro w'
                    go_simp
                    with_reducible rfl
                  rotate_left
                  · simp only [Act.put, List.setIfInBounds_toArray, List.set_cons_zero, List.set_cons_succ, i64_w, i32_w]
                    rfl
                  refine pure_ (i := 14) (N := some 59) (v := ?_) (a' := ?_) #[true, true, true, true, true, false, false, false, false, false, false, false, true, true, true, false, false, false, false, false, false] rfl rfl (any_of HT_.out (by kernel_rfl)) (fun _ _ _ h => h) (Or.inl ⟨by rfl, ?_⟩) ?_ ?_
                  rotate_left
                  · intro w'
                    go_simp
                    with_reducible rfl
                  rotate_left
                  · simp only [Act.put, List.setIfInBounds_toArray, List.set_cons_zero, List.set_cons_succ, i64_w, i32_w]
                    rfl
                  refine pure_ (i := 15) (N := some 60) (v := ?_) (a' := ?_) #[true, true, true, true, true, false, false, false, false, false, false, false, true, true, true, true, false, false, false, false, false] rfl rfl (any_of HT_.out (by kernel_rfl)) (fun _ _ _ h => h) (Or.inl ⟨by rfl, ?_⟩) ?_ ?_
                  rotate_left
                  · intro w'
                    go_simp
                    with_reducible rfl
                  rotate_left
                  · simp only [Act.put, List.setIfInBounds_toArray, List.set_cons_zero, List.set_cons_succ, i64_w, i32_w]
                    rfl
                  refine take_ (i := 5) (N := some 50) (v := ?_) (a' := ?_) #[true, true, true, true, true, true, false, false, false, false, false, false, true, true, true, true, false, false, false, false, false] rfl rfl (take_ofW HT_.out HW_.out (by kernel_rfl)) (fun _ _ _ h => h) (Or.inl ⟨by rfl, ?_⟩) hHeld ?_ ?_
                  rotate_left
                  · rintro w' ⟨s0, s1, s2, s3, s4, s5⟩
                    go_simp
                    with_reducible rfl
                  rotate_left
                  · simp only [Act.put, List.setIfInBounds_toArray, List.set_cons_zero, List.set_cons_succ, i64_w, i32_w]
                    rfl
                  refine pure_ (i := 6) (N := some 51) (v := ?_) (a' := ?_) #[true, true, true, true, true, true, true, false, false, false, false, false, true, true, true, true, false, false, false, false, false] rfl rfl (any_of HT_.out (by kernel_rfl)) (fun _ _ _ h => h) (Or.inl ⟨by rfl, ?_⟩) ?_ ?_
                  rotate_left
                  · intro w'
                    go_simp
                    with_reducible rfl
                  rotate_left
                  · simp only [Act.put, List.setIfInBounds_toArray, List.set_cons_zero, List.set_cons_succ, i64_w, i32_w]
                    rfl
                  refine pure_ (i := 7) (N := some 52) (v := ?_) (a' := ?_) #[true, true, true, true, true, true, true, true, false, false, false, false, true, true, true, true, false, false, false, false, false] rfl rfl (any_of HT_.out (by kernel_rfl)) (fun _ _ _ h => h) (Or.inl ⟨by rfl, ?_⟩) ?_ ?_
                  rotate_left
                  · intro w'
                    go_simp
                    with_reducible rfl
                  rotate_left
                  · simp only [Act.put, List.setIfInBounds_toArray, List.set_cons_zero, List.set_cons_succ, i64_w, i32_w]
                    rfl
                  refine pure_ (i := 8) (N := some 53) (v := ?_) (a' := ?_) #[true, true, true, true, true, true, true, true, true, false, false, false, true, true, true, true, false, false, false, false, false] rfl rfl (any_of HT_.out (by kernel_rfl)) (fun _ _ _ h => h) (Or.inl ⟨by rfl, ?_⟩) ?_ ?_
                  rotate_left
                  · intro w'
                    go_simp
                    with_reducible rfl
                  rotate_left
                  · simp only [Act.put, List.setIfInBounds_toArray, List.set_cons_zero, List.set_cons_succ, i64_w, i32_w]
                    rfl
                  refine pure_ (i := 9) (N := some 54) (v := ?_) (a' := ?_) #[true, true, true, true, true, true, true, true, true, true, false, false, true, true, true, true, false, false, false, false, false] rfl rfl (any_of HT_.out (by kernel_rfl)) (fun _ _ _ h => h) (Or.inl ⟨by rfl, ?_⟩) ?_ ?_
                  rotate_left
                  · intro w'
                    go_simp
                    with_reducible rfl
                  rotate_left
                  · simp only [Act.put, List.setIfInBounds_toArray, List.set_cons_zero, List.set_cons_succ, i64_w, i32_w]
                    rfl
                  refine take_ (i := 16) (N := some 61) (v := ?_) (a' := ?_) #[true, true, true, true, true, true, true, true, true, true, false, false, true, true, true, true, true, false, false, false, false] rfl rfl (take_ofW HT_.out HW_.out (by kernel_rfl)) (fun _ _ _ h => h) (Or.inl ⟨by rfl, ?_⟩) hHeld ?_ ?_
                  rotate_left
                  · rintro w' ⟨s0, s1, s2, s3, s4, s5⟩
                    go_simp
                    with_reducible rfl
                  rotate_left
                  · simp only [Act.put, List.setIfInBounds_toArray, List.set_cons_zero, List.set_cons_succ, i64_w, i32_w]
                    rfl
                  refine pure_ (i := 17) (N := some 62) (v := ?_) (a' := ?_) #[true, true, true, true, true, true, true, true, true, true, false, false, true, true, true, true, true, true, false, false, false] rfl rfl (any_of HT_.out (by kernel_rfl)) (fun _ _ _ h => h) (Or.inl ⟨by rfl, ?_⟩) ?_ ?_
                  rotate_left
                  · intro w'
                    go_simp
                    with_reducible rfl
                  rotate_left
                  · simp only [Act.put, List.setIfInBounds_toArray, List.set_cons_zero, List.set_cons_succ, i64_w, i32_w]
                    rfl
                  refine one_ (i := 10) (N := some 55) #[true, true, true, true, true, true, true, true, true, true, true, false, true, true, true, true, true, true, false, false, false] rfl rfl (one_of HT_.out (by kernel_rfl)) (by decide) (fun K hK => ?_)
                  refine goes_ Try.func20 (by kernel_rfl) rfl #[.int .u64 (IntKind.u64.wrap (wrap64 ((wrap64 (2 * (Int.tmod ((rd_T51 l2 x8_1).f1) 100000))) + 1)))] (by rfl) rfl rfl (by (try simp only [List.map_toArray, List.map_cons, List.map_nil]); first | done | rfl | (simp only [List.length_drop, List.length_take]; rfl)) ?_
                  with_reducible refine (knapsackref01_Put.calls k1 (IntKind.u64.wrap (wrap64 ((wrap64 (2 * (Int.tmod ((rd_T51 l2 x8_1).f1) 100000))) + 1))) t298 _ A12.out).mono ?_
                  rintro e w17 ⟨rfl, hb⟩
                  refine ⟨_, rfl, ?_⟩
                  have n0_ := Aside0.mk (below_step (by repeat (first | (with_reducible first | exact HB.out | apply below_alloc | apply pw_below_drewN | apply below_drew1) | exact HB.out)) hb)
                  clear HB
                  have HB := n0_
                  clear n0_
                  (try clear hb)
                  (try clear hb2)
                  (try clear hk)
                  (try clear hi)
                  refine hK.out _ _ ⟨((HB.out.cell (World.block_lt_of_cell? w _ hw297_0)).trans hw297_0), ((HB.out.cell (World.block_lt_of_cell? w _ hw297_1)).trans hw297_1), ((HB.out.cell (World.block_lt_of_cell? w _ hw297_2)).trans hw297_2), ((HB.out.cell (World.block_lt_of_cell? w _ hw299_0)).trans hw299_0), ((HB.out.cell (World.block_lt_of_cell? w _ hw299_1)).trans hw299_1), ((HB.out.cell (World.block_lt_of_cell? w _ hw299_2)).trans hw299_2)⟩ (fun hHeld => ?_)
                  clear hK K
                  refine norm_ (a' := ?_) ?_ ?_
                  rotate_left
                  · show Act.put _ (some 55) _ = _
                    simp only [Act.put, List.setIfInBounds_toArray, List.set_cons_zero, List.set_cons_succ, i64_w, i32_w]
                    rfl
                  refine pure_ (i := 11) (N := some 56) (v := ?_) (a' := ?_) #[true, true, true, true, true, true, true, true, true, true, true, true, true, true, true, true, true, true, false, false, false] rfl rfl (any_of HT_.out (by kernel_rfl)) (fun _ _ _ h => h) (Or.inl ⟨by rfl, ?_⟩) ?_ ?_
                  rotate_left
                  · intro w'
                    go_simp
                    with_reducible rfl
                  rotate_left
                  · simp only [Act.put, List.setIfInBounds_toArray, List.set_cons_zero, List.set_cons_succ, i64_w, i32_w]
                    rfl
                  refine one_ (i := 18) (N := some 63) #[true, true, true, true, true, true, true, true, true, true, true, true, true, true, true, true, true, true, true, false, false] rfl rfl (one_of HT_.out (by kernel_rfl)) (by decide) (fun K hK => ?_)
                  refine goes_ Try.func20 (by kernel_rfl) rfl #[.int .u64 (IntKind.u64.wrap ((rd_T51 l2 x8_1).f0))] (by rfl) rfl rfl (by (try simp only [List.map_toArray, List.map_cons, List.map_nil]); first | done | rfl | (simp only [List.length_drop, List.length_take]; rfl)) ?_
                  with_reducible refine (knapsackref01_Put.calls k1 (IntKind.u64.wrap ((rd_T51 l2 x8_1).f0)) t300 _ A14.out).mono ?_
                  rintro e w18 ⟨rfl, hb⟩
                  refine ⟨_, rfl, ?_⟩
                  have n0_ := Aside0.mk (below_step (by repeat (first | (with_reducible first | exact HB.out | apply below_alloc | apply pw_below_drewN | apply below_drew1) | exact HB.out)) hb)
                  clear HB
                  have HB := n0_
                  clear n0_
                  (try clear hb)
                  (try clear hb2)
                  (try clear hk)
                  (try clear hi)
                  refine hK.out _ _ ⟨((HB.out.cell (World.block_lt_of_cell? w _ hw297_0)).trans hw297_0), ((HB.out.cell (World.block_lt_of_cell? w _ hw297_1)).trans hw297_1), ((HB.out.cell (World.block_lt_of_cell? w _ hw297_2)).trans hw297_2), ((HB.out.cell (World.block_lt_of_cell? w _ hw299_0)).trans hw299_0), ((HB.out.cell (World.block_lt_of_cell? w _ hw299_1)).trans hw299_1), ((HB.out.cell (World.block_lt_of_cell? w _ hw299_2)).trans hw299_2)⟩ (fun hHeld => ?_)
                  clear hK K
                  refine norm_ (a' := ?_) ?_ ?_
                  rotate_left
                  · show Act.put _ (some 63) _ = _
                    simp only [Act.put, List.setIfInBounds_toArray, List.set_cons_zero, List.set_cons_succ, i64_w, i32_w]
                    rfl
                  refine pure_ (i := 19) (N := some 64) (v := ?_) (a' := ?_) #[true, true, true, true, true, true, true, true, true, true, true, true, true, true, true, true, true, true, true, true, false] rfl rfl (any_of HT_.out (by kernel_rfl)) (fun _ _ _ h => h) (Or.inl ⟨by rfl, ?_⟩) ?_ ?_
                  rotate_left
                  · intro w'
                    go_simp
                    with_reducible rfl
                  rotate_left
                  · simp only [Act.put, List.setIfInBounds_toArray, List.set_cons_zero, List.set_cons_succ, i64_w, i32_w]
                    rfl
                  refine pure_ (i := 20) (N := some 7) (v := ?_) (a' := ?_) #[true, true, true, true, true, true, true, true, true, true, true, true, true, true, true, true, true, true, true, true, true] rfl rfl (any_of HT_.out (by kernel_rfl)) (fun _ _ _ h => h) (Or.inl ⟨by rfl, ?_⟩) ?_ ?_
                  rotate_left
                  · intro w'
                    go_simp
                    with_reducible rfl
                  rotate_left
                  · simp only [Act.put, List.setIfInBounds_toArray, List.set_cons_zero, List.set_cons_succ, i64_w, i32_w]
                    rfl
                  refine done_ (done_of HT_.out (by kernel_rfl)) ?_
                  try go_wp2
                  go_roundg k1
                  case measure => have := HK1.out; omega
                  case rel => exact ⟨((x7_1 ++ t298) ++ t300), (wrap64 (x8_1 + 1)), (by first | rfl | (simp; done) | (simp; omega) | (simp [*]; done)), (by first | rfl | (simp; done) | (simp; omega) | (simp [*]; done)), H', ⟨by have := HK1.out; omega⟩, ⟨by repeat (first | (with_reducible first | exact HB.out | apply below_alloc | apply pw_below_drewN | apply below_drew1) | exact HB.out)⟩⟩
                · rw [if_neg c15] at H
                  exact absurd H (by simp)
              · rw [if_neg c13] at H
                exact absurd H (by simp)
            · rw [if_neg c11] at H
              have c11b0 : (((rd_T51 l2 x8_1).f2).toList == ([] : List UInt8)) = false := beq_eq_false_iff_ne.mpr c11
              have c11b1 : (((rd_T51 l2 x8_1).f2).toList != ([] : List UInt8)) = true := bne_iff_ne.mpr c11
              replace H := Option.bind_eq_some_iff.mp H
              obtain ⟨t302, A190, H⟩ := H
              replace H : (if x7_1.size + t302.size ≤ 9223372036854775807 then (if (x7_1 ++ t302).size + ((rd_T51 l2 x8_1).f2).size ≤ 9223372036854775807 then (knapsackref06_Delta.l0 k1 l2 ((x7_1 ++ t302) ++ ((rd_T51 l2 x8_1).f2)) (wrap64 (x8_1 + 1))) else (none)) else (none)) = some r := H
              have A19 := Aside0.mk A190
              clear A190
              by_cases c20 : x7_1.size + t302.size ≤ 9223372036854775807
              · rw [if_pos c20] at H
                have c20b1 : decide (x7_1.size + t302.size ≤ 9223372036854775807) = true := decide_eq_true c20
                try have c20b2 : (9223372036854775807 < x7_1.size + t302.size) = False := eq_false (Nat.not_lt.2 c20)
                clear c20
                by_cases c21 : (x7_1 ++ t302).size + ((rd_T51 l2 x8_1).f2).size ≤ 9223372036854775807
                · rw [if_pos c21] at H
                  have c21b1 : decide ((x7_1 ++ t302).size + ((rd_T51 l2 x8_1).f2).size ≤ 9223372036854775807) = true := decide_eq_true c21
                  try have c21b2 : (9223372036854775807 < (x7_1 ++ t302).size + ((rd_T51 l2 x8_1).f2).size) = False := eq_false (Nat.not_lt.2 c21)
                  (try have c21nb2 := c21b2)
                  (first | simp only [ByteArray.size_append, ByteArray.size_extract, Nat.sub_zero, Nat.min_self, Int.natCast_add] at c21nb2 | clear c21nb2 | skip)
                  clear c21
                  have H' := Aside0.mk H
                  clear H
                  have p296 : 0 ≤ (x8_1 : Int) := of_decide_eq_true (by first | (with_reducible assumption) | assumption)
                  have q296 : x8_1 < (l2.length : Int) := of_decide_eq_true (by first | (with_reducible assumption) | assumption)
                  obtain ⟨ad296, e296, hx296_0, hx296_1, hx296_2⟩ := at_T51 HR2.out x8_1 p296 q296
                  cases e296
                  replace hx296_0 := (HB.out.cell (World.block_lt_of_cell? w _ hx296_0)).trans hx296_0
                  replace hx296_1 := (HB.out.cell (World.block_lt_of_cell? w _ hx296_1)).trans hx296_1
                  replace hx296_2 := (HB.out.cell (World.block_lt_of_cell? w _ hx296_2)).trans hx296_2
                  replace p296 := eq_true p296
                  replace q296 := eq_true q296
                  try go_wp2
                  have n0_ := Aside0.mk (below_drew1 HB.out)
                  clear HB
                  have HB := n0_
                  clear n0_
                  have p301 : 0 ≤ (x8_1 : Int) := of_decide_eq_true (by first | (with_reducible assumption) | assumption)
                  have q301 : x8_1 < (l2.length : Int) := of_decide_eq_true (by first | (with_reducible assumption) | assumption)
                  obtain ⟨ad301, e301, hx301_0, hx301_1, hx301_2⟩ := at_T51 HR2.out x8_1 p301 q301
                  have hw301_2 := hx301_2
                  have hw301_1 := hx301_1
                  have hw301_0 := hx301_0
                  obtain rfl : ad296 = ad301 := (by injection e301)
                  replace hx301_0 := (HB.out.cell (World.block_lt_of_cell? w _ hx301_0)).trans hx301_0
                  replace hx301_1 := (HB.out.cell (World.block_lt_of_cell? w _ hx301_1)).trans hx301_1
                  replace hx301_2 := (HB.out.cell (World.block_lt_of_cell? w _ hx301_2)).trans hx301_2
                  replace p301 := eq_true p301
                  replace q301 := eq_true q301
                  have p303 : 0 ≤ (x8_1 : Int) := of_decide_eq_true (by first | (with_reducible assumption) | assumption)
                  have q303 : x8_1 < (l2.length : Int) := of_decide_eq_true (by first | (with_reducible assumption) | assumption)
                  obtain ⟨ad303, e303, hx303_0, hx303_1, hx303_2⟩ := at_T51 HR2.out x8_1 p303 q303
                  have hw303_2 := hx303_2
                  have hw303_1 := hx303_1
                  have hw303_0 := hx303_0
                  obtain rfl : ad296 = ad303 := (by injection e303)
                  replace hx303_0 := (HB.out.cell (World.block_lt_of_cell? w _ hx303_0)).trans hx303_0
                  replace hx303_1 := (HB.out.cell (World.block_lt_of_cell? w _ hx303_1)).trans hx303_1
                  replace hx303_2 := (HB.out.cell (World.block_lt_of_cell? w _ hx303_2)).trans hx303_2
                  replace p303 := eq_true p303
                  replace q303 := eq_true q303
                  refine start_ (n := 18) (S := fun w' => w'.cell? (ad296.add ((x8_1).toNat * 3)) = some (.int .i64 ((rd_T51 l2 x8_1).f0)) ∧ w'.cell? ⟨(ad296.add ((x8_1).toNat * 3)).block, (ad296.add ((x8_1).toNat * 3)).off + 1, none⟩ = some (.int .i64 ((rd_T51 l2 x8_1).f1)) ∧ w'.cell? ⟨(ad296.add ((x8_1).toNat * 3)).block, (ad296.add ((x8_1).toNat * 3)).off + 2, none⟩ = some (.string ((rd_T51 l2 x8_1).f2)) ∧ w'.cell? (ad296.add ((x8_1).toNat * 3)) = some (.int .i64 ((rd_T51 l2 x8_1).f0)) ∧ w'.cell? ⟨(ad296.add ((x8_1).toNat * 3)).block, (ad296.add ((x8_1).toNat * 3)).off + 1, none⟩ = some (.int .i64 ((rd_T51 l2 x8_1).f1)) ∧ w'.cell? ⟨(ad296.add ((x8_1).toNat * 3)).block, (ad296.add ((x8_1).toNat * 3)).off + 2, none⟩ = some (.string ((rd_T51 l2 x8_1).f2))) (ds := []) #[false, false, false, false, false, false, false, false, false, false, false, false, false, false, false, false, false, false] (by kernel_rfl) rfl rfl ⟨((HB.out.cell (World.block_lt_of_cell? w _ hw301_0)).trans hw301_0), ((HB.out.cell (World.block_lt_of_cell? w _ hw301_1)).trans hw301_1), ((HB.out.cell (World.block_lt_of_cell? w _ hw301_2)).trans hw301_2), ((HB.out.cell (World.block_lt_of_cell? w _ hw303_0)).trans hw303_0), ((HB.out.cell (World.block_lt_of_cell? w _ hw303_1)).trans hw303_1), ((HB.out.cell (World.block_lt_of_cell? w _ hw303_2)).trans hw303_2)⟩ (fun hHeld => ?_); refine with_tabW knapsackref06_Delta.tab6 knapsackref06_Delta.bits6 (fun HT_ HW_ => ?_)
                  generalize wr.drew = w22 at HB hx301_0 hx301_1 hx301_2 hx303_0 hx303_1 hx303_2 hHeld ⊢
                  refine pure_ (i := 0) (N := some 28) (v := ?_) (a' := ?_) #[true, false, false, false, false, false, false, false, false, false, false, false, false, false, false, false, false, false] rfl rfl (any_of HT_.out (by kernel_rfl)) (fun _ _ _ h => h) (Or.inl ⟨by rfl, ?_⟩) ?_ ?_
                  rotate_left
                  · intro w'
                    go_simp
                    with_reducible rfl
                  rotate_left
                  · simp only [Act.put, List.setIfInBounds_toArray, List.set_cons_zero, List.set_cons_succ, i64_w, i32_w]
                    rfl
                  refine pure_ (i := 1) (N := some 29) (v := ?_) (a' := ?_) #[true, true, false, false, false, false, false, false, false, false, false, false, false, false, false, false, false, false] rfl rfl (any_of HT_.out (by kernel_rfl)) (fun _ _ _ h => h) (Or.inl ⟨by rfl, ?_⟩) ?_ ?_
                  rotate_left
                  · intro w'
                    go_simp
                    with_reducible rfl
                  rotate_left
                  · simp only [Act.put, List.setIfInBounds_toArray, List.set_cons_zero, List.set_cons_succ, i64_w, i32_w]
                    rfl
                  refine pure_ (i := 2) (N := some 30) (v := ?_) (a' := ?_) #[true, true, true, false, false, false, false, false, false, false, false, false, false, false, false, false, false, false] rfl rfl (any_of HT_.out (by kernel_rfl)) (fun _ _ _ h => h) (Or.inl ⟨by rfl, ?_⟩) ?_ ?_
                  rotate_left
                  · intro w'
                    go_simp
                    with_reducible rfl
                  rotate_left
                  · simp only [Act.put, List.setIfInBounds_toArray, List.set_cons_zero, List.set_cons_succ, i64_w, i32_w]
                    rfl
                  refine pure_ (i := 3) (N := some 31) (v := ?_) (a' := ?_) #[true, true, true, true, false, false, false, false, false, false, false, false, false, false, false, false, false, false] rfl rfl (any_of HT_.out (by kernel_rfl)) (fun _ _ _ h => h) (Or.inl ⟨by rfl, ?_⟩) ?_ ?_
                  rotate_left
                  · intro w'
                    go_simp
                    with_reducible rfl
                  rotate_left
                  · simp only [Act.put, List.setIfInBounds_toArray, List.set_cons_zero, List.set_cons_succ, i64_w, i32_w]
                    rfl
                  refine pure_ (i := 4) (N := some 32) (v := ?_) (a' := ?_) #[true, true, true, true, true, false, false, false, false, false, false, false, false, false, false, false, false, false] rfl rfl (any_of HT_.out (by kernel_rfl)) (fun _ _ _ h => h) (Or.inl ⟨by rfl, ?_⟩) ?_ ?_
                  rotate_left
                  · intro w'
                    go_simp
                    with_reducible rfl
                  rotate_left
                  · simp only [Act.put, List.setIfInBounds_toArray, List.set_cons_zero, List.set_cons_succ, i64_w, i32_w]
                    rfl
                  refine pure_ (i := 11) (N := some 39) (v := ?_) (a' := ?_) #[true, true, true, true, true, false, false, false, false, false, false, true, false, false, false, false, false, false] rfl rfl (any_of HT_.out (by kernel_rfl)) (fun _ _ _ h => h) (Or.inl ⟨by rfl, ?_⟩) ?_ ?_
                  rotate_left
                  · intro w'
                    go_simp
                    with_reducible rfl
                  rotate_left
                  · simp only [Act.put, List.setIfInBounds_toArray, List.set_cons_zero, List.set_cons_succ, i64_w, i32_w]
                    rfl
                  refine pure_ (i := 12) (N := some 40) (v := ?_) (a' := ?_) #[true, true, true, true, true, false, false, false, false, false, false, true, true, false, false, false, false, false] rfl rfl (any_of HT_.out (by kernel_rfl)) (fun _ _ _ h => h) (Or.inl ⟨by rfl, ?_⟩) ?_ ?_
                  rotate_left
                  · intro w'
                    go_simp
                    with_reducible rfl
                  rotate_left
                  · simp only [Act.put, List.setIfInBounds_toArray, List.set_cons_zero, List.set_cons_succ, i64_w, i32_w]
                    rfl
                  refine pure_ (i := 13) (N := some 41) (v := ?_) (a' := ?_) #[true, true, true, true, true, false, false, false, false, false, false, true, true, true, false, false, false, false] rfl rfl (any_of HT_.out (by kernel_rfl)) (fun _ _ _ h => h) (Or.inl ⟨by rfl, ?_⟩) ?_ ?_
                  rotate_left
                  · intro w'
                    go_simp
                    with_reducible rfl
                  rotate_left
                  · simp only [Act.put, List.setIfInBounds_toArray, List.set_cons_zero, List.set_cons_succ, i64_w, i32_w]
                    rfl
                  refine pure_ (i := 14) (N := some 42) (v := ?_) (a' := ?_) #[true, true, true, true, true, false, false, false, false, false, false, true, true, true, true, false, false, false] rfl rfl (any_of HT_.out (by kernel_rfl)) (fun _ _ _ h => h) (Or.inl ⟨by rfl, ?_⟩) ?_ ?_
                  rotate_left
                  · intro w'
                    go_simp
                    with_reducible rfl
                  rotate_left
                  · simp only [Act.put, List.setIfInBounds_toArray, List.set_cons_zero, List.set_cons_succ, i64_w, i32_w]
                    rfl
                  refine take_ (i := 5) (N := some 33) (v := ?_) (a' := ?_) #[true, true, true, true, true, true, false, false, false, false, false, true, true, true, true, false, false, false] rfl rfl (take_ofW HT_.out HW_.out (by kernel_rfl)) (fun _ _ _ h => h) (Or.inl ⟨by rfl, ?_⟩) hHeld ?_ ?_
                  rotate_left
                  · rintro w' ⟨s0, s1, s2, s3, s4, s5⟩
                    go_simp
                    with_reducible rfl
                  rotate_left
                  · simp only [Act.put, List.setIfInBounds_toArray, List.set_cons_zero, List.set_cons_succ, i64_w, i32_w]
                    rfl
                  refine pure_ (i := 6) (N := some 34) (v := ?_) (a' := ?_) #[true, true, true, true, true, true, true, false, false, false, false, true, true, true, true, false, false, false] rfl rfl (any_of HT_.out (by kernel_rfl)) (fun _ _ _ h => h) (Or.inl ⟨by rfl, ?_⟩) ?_ ?_
                  rotate_left
                  · intro w'
                    go_simp
                    with_reducible rfl
                  rotate_left
                  · simp only [Act.put, List.setIfInBounds_toArray, List.set_cons_zero, List.set_cons_succ, i64_w, i32_w]
                    rfl
                  refine pure_ (i := 7) (N := some 35) (v := ?_) (a' := ?_) #[true, true, true, true, true, true, true, true, false, false, false, true, true, true, true, false, false, false] rfl rfl (any_of HT_.out (by kernel_rfl)) (fun _ _ _ h => h) (Or.inl ⟨by rfl, ?_⟩) ?_ ?_
                  rotate_left
                  · intro w'
                    go_simp
                    with_reducible rfl
                  rotate_left
                  · simp only [Act.put, List.setIfInBounds_toArray, List.set_cons_zero, List.set_cons_succ, i64_w, i32_w]
                    rfl
                  refine pure_ (i := 8) (N := some 36) (v := ?_) (a' := ?_) #[true, true, true, true, true, true, true, true, true, false, false, true, true, true, true, false, false, false] rfl rfl (any_of HT_.out (by kernel_rfl)) (fun _ _ _ h => h) (Or.inl ⟨by rfl, ?_⟩) ?_ ?_
                  rotate_left
                  · intro w'
                    go_simp
                    with_reducible rfl
                  rotate_left
                  · simp only [Act.put, List.setIfInBounds_toArray, List.set_cons_zero, List.set_cons_succ, i64_w, i32_w]
                    rfl
                  refine take_ (i := 15) (N := some 43) (v := ?_) (a' := ?_) #[true, true, true, true, true, true, true, true, true, false, false, true, true, true, true, true, false, false] rfl rfl (take_ofW HT_.out HW_.out (by kernel_rfl)) (fun _ _ _ h => h) (Or.inl ⟨by rfl, ?_⟩) hHeld ?_ ?_
                  rotate_left
                  · rintro w' ⟨s0, s1, s2, s3, s4, s5⟩
                    go_simp
                    with_reducible rfl
                  rotate_left
                  · simp only [Act.put, List.setIfInBounds_toArray, List.set_cons_zero, List.set_cons_succ, i64_w, i32_w]
                    rfl
                  refine one_ (i := 9) (N := some 37) #[true, true, true, true, true, true, true, true, true, true, false, true, true, true, true, true, false, false] rfl rfl (one_of HT_.out (by kernel_rfl)) (by decide) (fun K hK => ?_)
                  refine goes_ Try.func20 (by kernel_rfl) rfl #[.int .u64 (IntKind.u64.wrap (wrap64 (2 * (((rd_T51 l2 x8_1).f2).size : Int))))] (by rfl) rfl rfl (by (try simp only [List.map_toArray, List.map_cons, List.map_nil]); first | done | rfl | (simp only [List.length_drop, List.length_take]; rfl)) ?_
                  with_reducible refine (knapsackref01_Put.calls k1 (IntKind.u64.wrap (wrap64 (2 * (((rd_T51 l2 x8_1).f2).size : Int)))) t302 _ A19.out).mono ?_
                  rintro e w23 ⟨rfl, hb⟩
                  refine ⟨_, rfl, ?_⟩
                  have n0_ := Aside0.mk (below_step (by repeat (first | (with_reducible first | exact HB.out | apply below_alloc | apply pw_below_drewN | apply below_drew1) | exact HB.out)) hb)
                  clear HB
                  have HB := n0_
                  clear n0_
                  (try clear hb)
                  (try clear hb2)
                  (try clear hk)
                  (try clear hi)
                  refine hK.out _ _ ⟨((HB.out.cell (World.block_lt_of_cell? w _ hw301_0)).trans hw301_0), ((HB.out.cell (World.block_lt_of_cell? w _ hw301_1)).trans hw301_1), ((HB.out.cell (World.block_lt_of_cell? w _ hw301_2)).trans hw301_2), ((HB.out.cell (World.block_lt_of_cell? w _ hw303_0)).trans hw303_0), ((HB.out.cell (World.block_lt_of_cell? w _ hw303_1)).trans hw303_1), ((HB.out.cell (World.block_lt_of_cell? w _ hw303_2)).trans hw303_2)⟩ (fun hHeld => ?_)
                  clear hK K
                  refine norm_ (a' := ?_) ?_ ?_
                  rotate_left
                  · show Act.put _ (some 37) _ = _
                    simp only [Act.put, List.setIfInBounds_toArray, List.set_cons_zero, List.set_cons_succ, i64_w, i32_w]
                    rfl
                  refine pure_ (i := 10) (N := some 38) (v := ?_) (a' := ?_) #[true, true, true, true, true, true, true, true, true, true, true, true, true, true, true, true, false, false] rfl rfl (any_of HT_.out (by kernel_rfl)) (fun _ _ _ h => h) (Or.inl ⟨by rfl, ?_⟩) ?_ ?_
                  rotate_left
                  · intro w'
                    go_simp
                    with_reducible rfl
                  rotate_left
                  · simp only [Act.put, List.setIfInBounds_toArray, List.set_cons_zero, List.set_cons_succ, i64_w, i32_w]
                    rfl
                  refine pure_ (i := 16) (N := some 44) (v := ?_) (a' := ?_) #[true, true, true, true, true, true, true, true, true, true, true, true, true, true, true, true, true, false] rfl rfl (any_of HT_.out (by kernel_rfl)) (fun _ _ _ h => h) (Or.inl ⟨by rfl, ?_⟩) ?_ ?_
                  rotate_left
                  · intro w'
                    go_simp
                    with_reducible rfl
                  rotate_left
                  · simp only [Act.put, List.setIfInBounds_toArray, List.set_cons_zero, List.set_cons_succ, i64_w, i32_w]
                    rfl
                  refine pure_ (i := 17) (N := some 7) (v := ?_) (a' := ?_) #[true, true, true, true, true, true, true, true, true, true, true, true, true, true, true, true, true, true] rfl rfl (any_of HT_.out (by kernel_rfl)) (fun _ _ _ h => h) (Or.inl ⟨by rfl, ?_⟩) ?_ ?_
                  rotate_left
                  · intro w'
                    go_simp
                    with_reducible rfl
                  rotate_left
                  · simp only [Act.put, List.setIfInBounds_toArray, List.set_cons_zero, List.set_cons_succ, i64_w, i32_w]
                    rfl
                  refine done_ (done_of HT_.out (by kernel_rfl)) ?_
                  try go_wp2
                  go_roundg k1
                  case measure => have := HK1.out; omega
                  case rel => exact ⟨((x7_1 ++ t302) ++ ((rd_T51 l2 x8_1).f2)), (wrap64 (x8_1 + 1)), (by first | rfl | (simp; done) | (simp; omega) | (simp [*]; done)), (by first | rfl | (simp; done) | (simp; omega) | (simp [*]; done)), H', ⟨by have := HK1.out; omega⟩, ⟨by repeat (first | (with_reducible first | exact HB.out | apply below_alloc | apply pw_below_drewN | apply below_drew1) | exact HB.out)⟩⟩
                · rw [if_neg c21] at H
                  exact absurd H (by simp)
              · rw [if_neg c20] at H
                exact absurd H (by simp)
          · rw [if_neg c10] at H
            exact absurd H (by simp)
        · rw [if_neg c9] at H
          have c9b0 : decide (x8_1 < (l2.length : Int)) = false := decide_eq_false c9
          clear c9
          obtain rfl := Option.some.inj H
          go_wp2
          go_ret
          exact ⟨by first | rfl | (simp [errW_none, errW_some] <;> rfl) | (simp [*, errW_none, errW_some] <;> rfl), by repeat (first | (with_reducible first | exact HB.out | apply below_alloc | apply pw_below_drewN | apply below_drew1) | exact HB.out)⟩
  · rw [if_neg c6] at H
    exact absurd H (by simp)

/-! ### knapsacklaw06_DeltaSteps: function 8, by hand -/
def knapsacklaw06_DeltaSteps.l0 : Nat → ByteArray → List (S51) → Int → Int → Int → Int → Option Bool
  | 0, _, _, _, _, _, _ => none
  | k + 1, base, l, t0, t1, t2, i =>
    if i < (l.length : Int) then
      if 0 ≤ i then
        if ((rd_T51 l i).f2.size : Int) > 100 then knapsacklaw06_knows.f k
        else if (rd_T51 l i).f1 < 0 then knapsacklaw06_knows.f k
        else knapsacklaw06_DeltaSteps.l0 k base l t0 t1 t2 (wrap64 (i + 1))
      else none
    else
      (knapsackref06_Delta.f k t0 t1 l).bind fun d =>
        (delta_Apply.f k base d t2).bind fun s =>
          (knapsackref06_Apply.f k base d t2).bind fun t =>
            (knapsacklaw06_knows.f k).bind fun kn =>
              if kn = true then
                if s.1.toList = t.1.toList then some (s.2 == t.2) else some false
              else some false
def knapsacklaw06_DeltaSteps.f (k : Nat) (a0 : ByteArray) (l1 : List (S51)) (t0 t1 t2 : Int) : Option Bool :=
  if (a0.size : Int) > 400 then knapsacklaw06_knows.f k
  else if (l1.length : Int) > 30 then knapsacklaw06_knows.f k
  else if t2 > 20000 then knapsacklaw06_knows.f k
  else knapsacklaw06_DeltaSteps.l0 k a0 l1 t0 t1 t2 0
theorem knapsacklaw06_DeltaSteps.mono_l : ∀ k, (∀ y0 y1 y2 y3 y4 y5, LeO (knapsacklaw06_DeltaSteps.l0 k y0 y1 y2 y3 y4 y5) (knapsacklaw06_DeltaSteps.l0 (k + 1) y0 y1 y2 y3 y4 y5))
  | 0 => fun _ _ _ _ _ _ r h => by simp [knapsacklaw06_DeltaSteps.l0] at h
  | k + 1 => by
    have ih0 := knapsacklaw06_DeltaSteps.mono_l k
    intro y0 y1 y2 y3 y4 y5
    unfold knapsacklaw06_DeltaSteps.l0
    repeat' first
      | (with_reducible exact ih0 _ _ _ _ _ _)
      | (with_reducible exact knapsacklaw06_knows.mono _)
      | (with_reducible exact knapsackref06_Delta.mono _ _ _ _)
      | (with_reducible exact delta_Apply.mono _ _ _ _)
      | (with_reducible exact knapsackref06_Apply.mono _ _ _ _)
      | (with_reducible exact LeO.refl _)
      | (with_reducible exact LeO.none _)
      | (with_reducible refine LeO.ite ?_ ?_)
      | (with_reducible refine LeO.bind ?_ (fun _ => ?_))
theorem knapsacklaw06_DeltaSteps.mono : ∀ a0 a1 a2 a3 a4 k, LeO (knapsacklaw06_DeltaSteps.f k a0 a1 a2 a3 a4) (knapsacklaw06_DeltaSteps.f (k + 1) a0 a1 a2 a3 a4) := by
  intro a0 a1 a2 a3 a4 k
  have ih0 := knapsacklaw06_DeltaSteps.mono_l k
  unfold knapsacklaw06_DeltaSteps.f
  repeat' first
    | (with_reducible exact ih0 _ _ _ _ _ _)
    | (with_reducible exact knapsacklaw06_knows.mono _)
    | (with_reducible refine LeO.ite ?_ ?_)
theorem dl_blk {w w' : World} {b : Nat} {o : Obj} (h : w.heap[b]? = some o) (hb : Below w.heap.size w w') : w'.heap[b]? = some o := (hb.block b (Array.getElem?_eq_some_iff.1 h).1).trans h
set_option maxHeartbeats 8000000 in
set_option maxRecDepth 100000 in
theorem knapsacklaw06_DeltaSteps.calls (k : Nat) (a0 : ByteArray) (A1 : Option Addr) (c1 : Nat) (l1 : List (S51)) (t0 t1 t2 : Int) (r : Bool) (w : World) (hr1 : Kd.C k51 w A1 l1.length l1) (hc1 : l1.length ≤ c1) (h : knapsacklaw06_DeltaSteps.f k a0 l1 t0 t1 t2 = some r) :
    Calls Try.prog 8 #[.string a0, .slice A1 l1.length c1, .agg #[.int .i64 t0, .int .i64 t1, .int .i64 t2]] w fun e w' => e = .returned (.bool r) ∧ Below w.heap.size w w' := by
  have HR1 := Aside0.mk hr1
  have HC1 := Aside0.mk hc1
  clear hr1 hc1
  have HB := Aside0.mk (Below.refl w.heap.size w)
  have H : (if (a0.size : Int) > 400 then knapsacklaw06_knows.f k
    else if (l1.length : Int) > 30 then knapsacklaw06_knows.f k
    else if t2 > 20000 then knapsacklaw06_knows.f k
    else knapsacklaw06_DeltaSteps.l0 k a0 l1 t0 t1 t2 0) = some r := h
  clear h
  by_cases c1_ : (a0.size : Int) > 400
  · rw [if_pos c1_] at H
    have c1b0 : decide (400 < a0.size) = true := decide_eq_true (by omega)
    have c1b1 : decide (400 < (a0.size : Int)) = true := decide_eq_true c1_
    clear c1_
    have A2 := Aside0.mk H
    clear H
    go_enter Try.func8, Try.ntmps8
    go_wp2_with (first | ((with_reducible refine gate_callee (f := 28) rfl ?_); refine goesL_ (some 26) rfl rfl Try.func28 (by kernel_rfl) rfl #[] rfl (by (try simp only [List.map_toArray, List.map_cons, List.map_nil]); first | done | rfl | (simp only [List.length_drop, List.length_take]; rfl)) ?_; (with_reducible refine (knapsacklaw06_knows.calls k r _ A2.out).mono ?_); rintro e w5 ⟨rfl, hb⟩; refine ⟨_, rfl, ?_⟩; have n0_ := Aside0.mk (below_step (by repeat (first | (with_reducible first | exact HB.out | apply below_alloc | apply pw_below_drewN | apply below_drew1) | exact HB.out)) hb); clear HB; have HB := n0_; clear n0_; (try (have n1_ := Aside0.mk (dl_blk HG.out hb); clear HG; have HG := n1_; clear n1_)); (try clear hb)))
    go_ret
    exact ⟨rfl, by repeat (first | (with_reducible first | exact HB.out | apply below_alloc | apply pw_below_drewN | apply below_drew1) | exact HB.out)⟩
  · rw [if_neg c1_] at H
    have c1b0 : decide (400 < a0.size) = false := decide_eq_false (by omega)
    have c1b1 : decide (400 < (a0.size : Int)) = false := decide_eq_false c1_
    clear c1_
    by_cases c2_ : (l1.length : Int) > 30
    · rw [if_pos c2_] at H
      have c2b0 : decide (30 < l1.length) = true := decide_eq_true (by omega)
      have c2b1 : decide (30 < (l1.length : Int)) = true := decide_eq_true c2_
      clear c2_
      have A2 := Aside0.mk H
      clear H
      go_enter Try.func8, Try.ntmps8
      go_wp2_with (first | ((with_reducible refine gate_callee (f := 28) rfl ?_); refine goesL_ (some 26) rfl rfl Try.func28 (by kernel_rfl) rfl #[] rfl (by (try simp only [List.map_toArray, List.map_cons, List.map_nil]); first | done | rfl | (simp only [List.length_drop, List.length_take]; rfl)) ?_; (with_reducible refine (knapsacklaw06_knows.calls k r _ A2.out).mono ?_); rintro e w5 ⟨rfl, hb⟩; refine ⟨_, rfl, ?_⟩; have n0_ := Aside0.mk (below_step (by repeat (first | (with_reducible first | exact HB.out | apply below_alloc | apply pw_below_drewN | apply below_drew1) | exact HB.out)) hb); clear HB; have HB := n0_; clear n0_; (try (have n1_ := Aside0.mk (dl_blk HG.out hb); clear HG; have HG := n1_; clear n1_)); (try clear hb)))
      go_ret
      exact ⟨rfl, by repeat (first | (with_reducible first | exact HB.out | apply below_alloc | apply pw_below_drewN | apply below_drew1) | exact HB.out)⟩
    · rw [if_neg c2_] at H
      have c2b0 : decide (30 < l1.length) = false := decide_eq_false (by omega)
      have c2b1 : decide (30 < (l1.length : Int)) = false := decide_eq_false c2_
      clear c2_
      by_cases c3_ : t2 > 20000
      · rw [if_pos c3_] at H
        have c3b1 : decide (20000 < t2) = true := decide_eq_true c3_
        clear c3_
        have A2 := Aside0.mk H
        clear H
        go_enter Try.func8, Try.ntmps8
        go_wp2_with (first | ((with_reducible refine gate_callee (f := 28) rfl ?_); refine goesL_ (some 26) rfl rfl Try.func28 (by kernel_rfl) rfl #[] rfl (by (try simp only [List.map_toArray, List.map_cons, List.map_nil]); first | done | rfl | (simp only [List.length_drop, List.length_take]; rfl)) ?_; (with_reducible refine (knapsacklaw06_knows.calls k r _ A2.out).mono ?_); rintro e w5 ⟨rfl, hb⟩; refine ⟨_, rfl, ?_⟩; have n0_ := Aside0.mk (below_step (by repeat (first | (with_reducible first | exact HB.out | apply below_alloc | apply pw_below_drewN | apply below_drew1) | exact HB.out)) hb); clear HB; have HB := n0_; clear n0_; (try (have n1_ := Aside0.mk (dl_blk HG.out hb); clear HG; have HG := n1_; clear n1_)); (try clear hb)))
        go_ret
        exact ⟨rfl, by repeat (first | (with_reducible first | exact HB.out | apply below_alloc | apply pw_below_drewN | apply below_drew1) | exact HB.out)⟩
      · rw [if_neg c3_] at H
        have c3b1 : decide (20000 < t2) = false := decide_eq_false c3_
        clear c3_
        have H' := Aside0.mk H
        clear H
        go_enter Try.func8, Try.ntmps8
        go_wp2
        have HG : Aside0 ((w.alloc (Obj.cells #[Value.int IntKind.i64 t0, Value.int IntKind.i64 t1, Value.int IntKind.i64 t2] 49)).heap[w.heap.size]? = some (.cells #[.int .i64 t0, .int .i64 t1, .int .i64 t2] 49 (0, 0))) := ⟨heap_alloc_new w _⟩
        have n0_ := Aside0.mk (below_alloc HB.out (Obj.cells #[Value.int IntKind.i64 t0, Value.int IntKind.i64 t1, Value.int IntKind.i64 t2] 49))
        clear HB
        have HB := n0_
        clear n0_ c1b0 c1b1 c2b0 c2b1 c3b1
        go_loopg [7] k (fun kq v7 w' => ∃ (i : Int), v7 = .int .i64 i ∧ Aside0 (knapsacklaw06_DeltaSteps.l0 kq a0 l1 t0 t1 t2 i = some r) ∧ Aside0 (kq ≤ k) ∧ Aside0 (w'.heap[w.heap.size]? = some (.cells #[.int .i64 t0, .int .i64 t1, .int .i64 t2] 49 (0, 0))) ∧ Aside0 (Below w.heap.size w w'))
        case atStart => exact ⟨0, rfl, H', ⟨Nat.le_refl _⟩, HG, HB⟩
        case round =>
          clear H' HG HB
          obtain ⟨i, rfl, HA, HK1, HG, HB⟩ := hrel
          cases gk with
          | zero => exact absurd HA.out (by simp [knapsacklaw06_DeltaSteps.l0])
          | succ k1 =>
            have H := HA.out
            clear HA
            simp only [knapsacklaw06_DeltaSteps.l0] at H
            by_cases c2 : i < (l1.length : Int)
            · rw [if_pos c2] at H
              have c2b0 : decide (i < (l1.length : Int)) = true := decide_eq_true c2
              by_cases c3 : 0 ≤ i
              · rw [if_pos c3] at H
                obtain ⟨ad, e101, hx0, hx1, hx2⟩ := at_T51 HR1.out i c3 c2
                have c3b0 := eq_true c3
                have c2b1 := eq_true c2
                clear c3 c2
                cases e101
                clear hx0
                replace hx1 := (HB.out.cell (World.block_lt_of_cell? w _ hx1)).trans hx1
                replace hx2 := (HB.out.cell (World.block_lt_of_cell? w _ hx2)).trans hx2
                obtain ⟨f1, hf1⟩ : ∃ f1, (rd_T51 l1 i).f1 = f1 := ⟨_, rfl⟩
                obtain ⟨f2, hf2⟩ : ∃ f2, (rd_T51 l1 i).f2 = f2 := ⟨_, rfl⟩
                rw [hf1] at hx1 H
                rw [hf2] at hx2 H
                clear hf1 hf2
                by_cases c4 : (f2.size : Int) > 100
                · rw [if_pos c4] at H
                  have c4b0 : decide (100 < f2.size) = true := decide_eq_true (by omega)
                  have c4b1 : decide (100 < (f2.size : Int)) = true := decide_eq_true c4
                  clear c4
                  have A2 := Aside0.mk H
                  clear H
                  go_wp2_with (first | ((with_reducible refine gate_callee (f := 28) rfl ?_); refine goesL_ (some 48) rfl rfl Try.func28 (by kernel_rfl) rfl #[] rfl (by (try simp only [List.map_toArray, List.map_cons, List.map_nil]); first | done | rfl | (simp only [List.length_drop, List.length_take]; rfl)) ?_; (with_reducible refine (knapsacklaw06_knows.calls k1 r _ A2.out).mono ?_); rintro e w5 ⟨rfl, hb⟩; refine ⟨_, rfl, ?_⟩; have n0_ := Aside0.mk (below_step (by repeat (first | (with_reducible first | exact HB.out | apply below_alloc | apply pw_below_drewN | apply below_drew1) | exact HB.out)) hb); clear HB; have HB := n0_; clear n0_; (try (have n1_ := Aside0.mk (dl_blk HG.out hb); clear HG; have HG := n1_; clear n1_)); (try clear hb)))
                  go_ret
                  exact ⟨rfl, by repeat (first | (with_reducible first | exact HB.out | apply below_alloc | apply pw_below_drewN | apply below_drew1) | exact HB.out)⟩
                · rw [if_neg c4] at H
                  have c4b0 : decide (100 < f2.size) = false := decide_eq_false (by omega)
                  have c4b1 : decide (100 < (f2.size : Int)) = false := decide_eq_false c4
                  clear c4
                  by_cases c5 : f1 < 0
                  · rw [if_pos c5] at H
                    have c5b1 : decide (f1 < 0) = true := decide_eq_true c5
                    clear c5
                    have A2 := Aside0.mk H
                    clear H
                    go_wp2_with (first | ((with_reducible refine gate_callee (f := 28) rfl ?_); refine goesL_ (some 48) rfl rfl Try.func28 (by kernel_rfl) rfl #[] rfl (by (try simp only [List.map_toArray, List.map_cons, List.map_nil]); first | done | rfl | (simp only [List.length_drop, List.length_take]; rfl)) ?_; (with_reducible refine (knapsacklaw06_knows.calls k1 r _ A2.out).mono ?_); rintro e w5 ⟨rfl, hb⟩; refine ⟨_, rfl, ?_⟩; have n0_ := Aside0.mk (below_step (by repeat (first | (with_reducible first | exact HB.out | apply below_alloc | apply pw_below_drewN | apply below_drew1) | exact HB.out)) hb); clear HB; have HB := n0_; clear n0_; (try (have n1_ := Aside0.mk (dl_blk HG.out hb); clear HG; have HG := n1_; clear n1_)); (try clear hb)))
                    go_ret
                    exact ⟨rfl, by repeat (first | (with_reducible first | exact HB.out | apply below_alloc | apply pw_below_drewN | apply below_drew1) | exact HB.out)⟩
                  · rw [if_neg c5] at H
                    have c5b1 : decide (f1 < 0) = false := decide_eq_false c5
                    clear c5
                    have H' := Aside0.mk H
                    clear H
                    go_wp2
                    go_roundg k1
                    case measure => have := HK1.out; omega
                    case rel => exact ⟨wrap64 (i + 1), rfl, H', ⟨by have := HK1.out; omega⟩, HG, HB⟩
              · rw [if_neg c3] at H
                exact absurd H (by simp)
            · rw [if_neg c2] at H
              have c2b0 : decide (i < (l1.length : Int)) = false := decide_eq_false c2
              clear c2
              replace H := Option.bind_eq_some_iff.mp H
              obtain ⟨d, AD0, H⟩ := H
              have AD := Aside0.mk AD0
              clear AD0
              replace H := Option.bind_eq_some_iff.mp H
              obtain ⟨⟨s, se⟩, AS0, H⟩ := H
              have AS := Aside0.mk AS0
              clear AS0
              replace H := Option.bind_eq_some_iff.mp H
              obtain ⟨⟨u, ue⟩, AU0, H⟩ := H
              have AU := Aside0.mk AU0
              clear AU0
              replace H := Option.bind_eq_some_iff.mp H
              obtain ⟨kn, AN0, H⟩ := H
              have AN := Aside0.mk AN0
              clear AN0
              have g0 : wr.cell? ⟨w.heap.size, 0, none⟩ = some (.int .i64 t0) := by simp [World.cell?, HG.out]
              have g1 : wr.cell? ⟨w.heap.size, 1, none⟩ = some (.int .i64 t1) := by simp [World.cell?, HG.out]
              have HC2 : Aside0 (Kd.C k51 wr A1 l1.length l1) := ⟨Kd.C_below HR1.out HB.out⟩
              have HT : Aside0 (∀ W : World, W.heap[w.heap.size]? = some (.cells #[.int .i64 t0, .int .i64 t1, .int .i64 t2] 49 (0, 0)) → W.cell? ⟨w.heap.size, 2, none⟩ = some (.int .i64 t2)) := ⟨fun W h => by simp [World.cell?, h]⟩
              cases kn with
              | false =>
                rw [if_neg (by simp)] at H
                obtain rfl := Option.some.inj H
                go_wp2_with (first
                  | ((with_reducible refine gate_callee (f := 32) rfl ?_); refine goesL_ (some 54) rfl rfl Try.func32 (by kernel_rfl) rfl #[.int .i64 t0, .int .i64 t1, .slice A1 l1.length c1] rfl (by (try simp only [List.map_toArray, List.map_cons, List.map_nil]); first | done | rfl | (simp only [List.length_drop, List.length_take]; rfl)) ?_; (with_reducible refine (knapsackref06_Delta.calls k1 t0 t1 A1 c1 l1 d _ HC2.out HC1.out AD.out).mono ?_); rintro e w5 ⟨rfl, hb⟩; refine ⟨_, rfl, ?_⟩; have n0_ := Aside0.mk (below_step (by repeat (first | (with_reducible first | exact HB.out | apply below_alloc | apply pw_below_drewN | apply below_drew1) | exact HB.out)) hb); clear HB; have HB := n0_; clear n0_; (try (have n1_ := Aside0.mk (dl_blk HG.out hb); clear HG; have HG := n1_; clear n1_; have g2 := HT.out _ HG.out)); (try clear hb))
                  | ((with_reducible refine gate_callee (f := 29) rfl ?_); refine goesL_ (some 60) rfl rfl Try.func29 (by kernel_rfl) rfl #[.string a0, .string d, .int .i64 t2] rfl (by (try simp only [List.map_toArray, List.map_cons, List.map_nil]); first | done | rfl | (simp only [List.length_drop, List.length_take]; rfl)) ?_; (with_reducible refine (delta_Apply.calls k1 a0 d t2 s se _ AS.out).mono ?_); rintro e w5 ⟨rfl, hb⟩; refine ⟨_, rfl, ?_⟩; have n0_ := Aside0.mk (below_step (by repeat (first | (with_reducible first | exact HB.out | apply below_alloc | apply pw_below_drewN | apply below_drew1) | exact HB.out)) hb); clear HB; have HB := n0_; clear n0_; (try (have n1_ := Aside0.mk (dl_blk HG.out hb); clear HG; have HG := n1_; clear n1_; have g2 := HT.out _ HG.out)); (try clear hb))
                  | ((with_reducible refine gate_callee (f := 30) rfl ?_); refine goesL_ (some 68) rfl rfl Try.func30 (by kernel_rfl) rfl #[.string a0, .string d, .int .i64 t2] rfl (by (try simp only [List.map_toArray, List.map_cons, List.map_nil]); first | done | rfl | (simp only [List.length_drop, List.length_take]; rfl)) ?_; (with_reducible refine (knapsackref06_Apply.calls k1 a0 d t2 u ue _ AU.out).mono ?_); rintro e w' ⟨rfl, ⟨nd, rfl⟩⟩; refine ⟨_, rfl, ?_⟩)
                  | ((with_reducible refine gate_callee (f := 28) rfl ?_); refine goesL_ (some 71) rfl rfl Try.func28 (by kernel_rfl) rfl #[] rfl (by (try simp only [List.map_toArray, List.map_cons, List.map_nil]); first | done | rfl | (simp only [List.length_drop, List.length_take]; rfl)) ?_; (with_reducible refine (knapsacklaw06_knows.calls k1 false _ AN.out).mono ?_); rintro e w5 ⟨rfl, hb⟩; refine ⟨_, rfl, ?_⟩; have n0_ := Aside0.mk (below_step (by repeat (first | (with_reducible first | exact HB.out | apply below_alloc | apply pw_below_drewN | apply below_drew1) | exact HB.out)) hb); clear HB; have HB := n0_; clear n0_; (try (have n1_ := Aside0.mk (dl_blk HG.out hb); clear HG; have HG := n1_; clear n1_; have g2 := HT.out _ HG.out)); (try clear hb)))
                go_ret
                exact ⟨by first | rfl | (simp; done), by repeat (first | (with_reducible first | exact HB.out | apply below_alloc | apply pw_below_drewN | apply below_drew1) | exact HB.out)⟩
              | true =>
                rw [if_pos rfl] at H
                by_cases c4 : s.toList = u.toList
                · rw [if_pos c4] at H
                  have c4b0 : (s.toList == u.toList) = true := beq_iff_eq.mpr c4
                  clear c4
                  obtain rfl := Option.some.inj H
                  go_wp2_with (first
                    | ((with_reducible refine gate_callee (f := 32) rfl ?_); refine goesL_ (some 54) rfl rfl Try.func32 (by kernel_rfl) rfl #[.int .i64 t0, .int .i64 t1, .slice A1 l1.length c1] rfl (by (try simp only [List.map_toArray, List.map_cons, List.map_nil]); first | done | rfl | (simp only [List.length_drop, List.length_take]; rfl)) ?_; (with_reducible refine (knapsackref06_Delta.calls k1 t0 t1 A1 c1 l1 d _ HC2.out HC1.out AD.out).mono ?_); rintro e w5 ⟨rfl, hb⟩; refine ⟨_, rfl, ?_⟩; have n0_ := Aside0.mk (below_step (by repeat (first | (with_reducible first | exact HB.out | apply below_alloc | apply pw_below_drewN | apply below_drew1) | exact HB.out)) hb); clear HB; have HB := n0_; clear n0_; (try (have n1_ := Aside0.mk (dl_blk HG.out hb); clear HG; have HG := n1_; clear n1_; have g2 := HT.out _ HG.out)); (try clear hb))
                    | ((with_reducible refine gate_callee (f := 29) rfl ?_); refine goesL_ (some 60) rfl rfl Try.func29 (by kernel_rfl) rfl #[.string a0, .string d, .int .i64 t2] rfl (by (try simp only [List.map_toArray, List.map_cons, List.map_nil]); first | done | rfl | (simp only [List.length_drop, List.length_take]; rfl)) ?_; (with_reducible refine (delta_Apply.calls k1 a0 d t2 s se _ AS.out).mono ?_); rintro e w5 ⟨rfl, hb⟩; refine ⟨_, rfl, ?_⟩; have n0_ := Aside0.mk (below_step (by repeat (first | (with_reducible first | exact HB.out | apply below_alloc | apply pw_below_drewN | apply below_drew1) | exact HB.out)) hb); clear HB; have HB := n0_; clear n0_; (try (have n1_ := Aside0.mk (dl_blk HG.out hb); clear HG; have HG := n1_; clear n1_; have g2 := HT.out _ HG.out)); (try clear hb))
                    | ((with_reducible refine gate_callee (f := 30) rfl ?_); refine goesL_ (some 68) rfl rfl Try.func30 (by kernel_rfl) rfl #[.string a0, .string d, .int .i64 t2] rfl (by (try simp only [List.map_toArray, List.map_cons, List.map_nil]); first | done | rfl | (simp only [List.length_drop, List.length_take]; rfl)) ?_; (with_reducible refine (knapsackref06_Apply.calls k1 a0 d t2 u ue _ AU.out).mono ?_); rintro e w' ⟨rfl, ⟨nd, rfl⟩⟩; refine ⟨_, rfl, ?_⟩)
                    | ((with_reducible refine gate_callee (f := 28) rfl ?_); refine goesL_ (some 71) rfl rfl Try.func28 (by kernel_rfl) rfl #[] rfl (by (try simp only [List.map_toArray, List.map_cons, List.map_nil]); first | done | rfl | (simp only [List.length_drop, List.length_take]; rfl)) ?_; (with_reducible refine (knapsacklaw06_knows.calls k1 true _ AN.out).mono ?_); rintro e w5 ⟨rfl, hb⟩; refine ⟨_, rfl, ?_⟩; have n0_ := Aside0.mk (below_step (by repeat (first | (with_reducible first | exact HB.out | apply below_alloc | apply pw_below_drewN | apply below_drew1) | exact HB.out)) hb); clear HB; have HB := n0_; clear n0_; (try (have n1_ := Aside0.mk (dl_blk HG.out hb); clear HG; have HG := n1_; clear n1_; have g2 := HT.out _ HG.out)); (try clear hb)))
                  go_ret
                  exact ⟨by first | rfl | (simp; done), by repeat (first | (with_reducible first | exact HB.out | apply below_alloc | apply pw_below_drewN | apply below_drew1) | exact HB.out)⟩
                · rw [if_neg c4] at H
                  have c4b0 : (s.toList == u.toList) = false := beq_eq_false_iff_ne.mpr c4
                  clear c4
                  obtain rfl := Option.some.inj H
                  go_wp2_with (first
                    | ((with_reducible refine gate_callee (f := 32) rfl ?_); refine goesL_ (some 54) rfl rfl Try.func32 (by kernel_rfl) rfl #[.int .i64 t0, .int .i64 t1, .slice A1 l1.length c1] rfl (by (try simp only [List.map_toArray, List.map_cons, List.map_nil]); first | done | rfl | (simp only [List.length_drop, List.length_take]; rfl)) ?_; (with_reducible refine (knapsackref06_Delta.calls k1 t0 t1 A1 c1 l1 d _ HC2.out HC1.out AD.out).mono ?_); rintro e w5 ⟨rfl, hb⟩; refine ⟨_, rfl, ?_⟩; have n0_ := Aside0.mk (below_step (by repeat (first | (with_reducible first | exact HB.out | apply below_alloc | apply pw_below_drewN | apply below_drew1) | exact HB.out)) hb); clear HB; have HB := n0_; clear n0_; (try (have n1_ := Aside0.mk (dl_blk HG.out hb); clear HG; have HG := n1_; clear n1_; have g2 := HT.out _ HG.out)); (try clear hb))
                    | ((with_reducible refine gate_callee (f := 29) rfl ?_); refine goesL_ (some 60) rfl rfl Try.func29 (by kernel_rfl) rfl #[.string a0, .string d, .int .i64 t2] rfl (by (try simp only [List.map_toArray, List.map_cons, List.map_nil]); first | done | rfl | (simp only [List.length_drop, List.length_take]; rfl)) ?_; (with_reducible refine (delta_Apply.calls k1 a0 d t2 s se _ AS.out).mono ?_); rintro e w5 ⟨rfl, hb⟩; refine ⟨_, rfl, ?_⟩; have n0_ := Aside0.mk (below_step (by repeat (first | (with_reducible first | exact HB.out | apply below_alloc | apply pw_below_drewN | apply below_drew1) | exact HB.out)) hb); clear HB; have HB := n0_; clear n0_; (try (have n1_ := Aside0.mk (dl_blk HG.out hb); clear HG; have HG := n1_; clear n1_; have g2 := HT.out _ HG.out)); (try clear hb))
                    | ((with_reducible refine gate_callee (f := 30) rfl ?_); refine goesL_ (some 68) rfl rfl Try.func30 (by kernel_rfl) rfl #[.string a0, .string d, .int .i64 t2] rfl (by (try simp only [List.map_toArray, List.map_cons, List.map_nil]); first | done | rfl | (simp only [List.length_drop, List.length_take]; rfl)) ?_; (with_reducible refine (knapsackref06_Apply.calls k1 a0 d t2 u ue _ AU.out).mono ?_); rintro e w' ⟨rfl, ⟨nd, rfl⟩⟩; refine ⟨_, rfl, ?_⟩)
                    | ((with_reducible refine gate_callee (f := 28) rfl ?_); refine goesL_ (some 71) rfl rfl Try.func28 (by kernel_rfl) rfl #[] rfl (by (try simp only [List.map_toArray, List.map_cons, List.map_nil]); first | done | rfl | (simp only [List.length_drop, List.length_take]; rfl)) ?_; (with_reducible refine (knapsacklaw06_knows.calls k1 true _ AN.out).mono ?_); rintro e w5 ⟨rfl, hb⟩; refine ⟨_, rfl, ?_⟩; have n0_ := Aside0.mk (below_step (by repeat (first | (with_reducible first | exact HB.out | apply below_alloc | apply pw_below_drewN | apply below_drew1) | exact HB.out)) hb); clear HB; have HB := n0_; clear n0_; (try (have n1_ := Aside0.mk (dl_blk HG.out hb); clear HG; have HG := n1_; clear n1_; have g2 := HT.out _ HG.out)); (try clear hb)))
                  go_ret
                  exact ⟨by first | rfl | (simp; done), by repeat (first | (with_reducible first | exact HB.out | apply below_alloc | apply pw_below_drewN | apply below_drew1) | exact HB.out)⟩

end Go.Proofs.Ytnmnplbjhejejaa.PA
