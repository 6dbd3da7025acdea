-- Written by a turned copy of the printer (wip/patchprint.py of this repo), with contracts of this session beside; Lean checks it.
import Derived.Test.YtnmnplbjhejejaaPAx0
import Derived.Test.YtnmnplbjhejejaaPAx5
import Derived.Test.YtnmnplbjhejejaaPAx6
import Derived.Test.YtnmnplbjhejejaaPAx9
import Derived.Test.YtnmnplbjhejejaaPAx10
namespace Go.Proofs.Ytnmnplbjhejejaa.PA
open Go.RowKit Go.Proofs.YtnmnplbjhejejaaW.PrintWords Go.Proofs.YtnmnplbjhejejaaW.PrintLast Go.Proofs.YtnmnplbjhejejaaW.PrintMore
attribute [local go_sem] max2_int min2_int max_two min_two max_three min_three max_four min_four   -- for this text's walks alone
set_option linter.unusedVariables false
set_option linter.unusedSimpArgs false

/-! ### knapsacklaw06_DeltaApplies: function 7 -/
mutual
def knapsacklaw06_DeltaApplies.j0 : Nat → ByteArray → ByteArray → Int → Bool → Option (Bool)
  | 0, _, _, _, _ => none
  | k + 1, x0, x1, x2, x24 => if x24 = true then ((knapsacklaw06_knows.f k).bind fun t258 => (some t258)) else ((delta_Apply.f k x0 x1 x2).bind fun bt259 => ((knapsackref06_Apply.f k x0 x1 x2).bind fun bt261 => (if bt259.1.toList = bt261.1.toList then (knapsacklaw06_DeltaApplies.j1 k x1 (bt259.2 != bt261.2)) else (knapsacklaw06_DeltaApplies.j1 k x1 true))))
def knapsacklaw06_DeltaApplies.j1 : Nat → ByteArray → Bool → Option (Bool)
  | 0, _, _ => none
  | k + 1, x1, x47 => if x47 = true then (some false) else ((delta_Size.f k x1).bind fun bt263 => ((knapsackref01_Get.f k x1).bind fun bt265 => (if 0 ≤ bt265.2 then (if bt265.2 ≤ (x1.size : Int) then ((knapsackref01_Get.f k (x1.extract (bt265.2 : Int).toNat x1.size)).bind fun bt267 => (if bt265.2 = 0 then (knapsacklaw06_DeltaApplies.j2 k bt263.1 bt263.2 bt267.1 true) else (if bt267.2 = 0 then (knapsacklaw06_DeltaApplies.j2 k bt263.1 bt263.2 bt267.1 true) else (knapsacklaw06_DeltaApplies.j2 k bt263.1 bt263.2 bt267.1 (decide (bt267.1 > 2147483647)))))) else (none)) else (none))))
def knapsacklaw06_DeltaApplies.j2 : Nat → Int → Int → Int → Bool → Option (Bool)
  | 0, _, _, _, _ => none
  | k + 1, x11, x12, x15, x74 => if x74 = true then ((knapsacklaw06_knows.f k).bind fun t269 => (if t269 = true then (if x11 = 0 then (some (x12 == 2)) else (some false)) else (some false))) else ((knapsacklaw06_knows.f k).bind fun t270 => (if t270 = true then (if x11 = (wrap64 (x15)) then (some (x12 == 0)) else (some false)) else (some false)))
end
def knapsacklaw06_DeltaApplies.f (k : Nat) (a0 : ByteArray) (a1 : ByteArray) (a2 : Int) : Option (Bool) := if (a0.size : Int) > 400 then (knapsacklaw06_DeltaApplies.j0 k a0 a1 a2 true) else (knapsacklaw06_DeltaApplies.j0 k a0 a1 a2 (decide ((a1.size : Int) > 400)))
theorem knapsacklaw06_DeltaApplies.mono_l : ∀ k, (∀ y0 y1 y2 y3, LeO (knapsacklaw06_DeltaApplies.j0 k y0 y1 y2 y3) (knapsacklaw06_DeltaApplies.j0 (k + 1) y0 y1 y2 y3)) ∧ (∀ y0 y1, LeO (knapsacklaw06_DeltaApplies.j1 k y0 y1) (knapsacklaw06_DeltaApplies.j1 (k + 1) y0 y1)) ∧ (∀ y0 y1 y2 y3, LeO (knapsacklaw06_DeltaApplies.j2 k y0 y1 y2 y3) (knapsacklaw06_DeltaApplies.j2 (k + 1) y0 y1 y2 y3))
  | 0 => ⟨fun _ _ _ _ r h => by simp [knapsacklaw06_DeltaApplies.j0] at h, fun _ _ r h => by simp [knapsacklaw06_DeltaApplies.j1] at h, fun _ _ _ _ r h => by simp [knapsacklaw06_DeltaApplies.j2] at h⟩
  | k + 1 => by
    obtain ⟨ih0, ih1, ih2⟩ := knapsacklaw06_DeltaApplies.mono_l k
    refine ⟨?_, ?_, ?_⟩
    · intro y0 y1 y2 y3
      unfold knapsacklaw06_DeltaApplies.j0
      repeat' first
      | (with_reducible exact ih0 _ _ _ _)
      | (with_reducible exact ih1 _ _)
      | (with_reducible exact ih2 _ _ _ _)
      | (with_reducible exact delta_Apply.mono _ _ _ _)
      | (with_reducible exact delta_Size.mono _ _)
      | (with_reducible exact knapsacklaw06_knows.mono _)
      | (with_reducible exact knapsackref01_Get.mono _ _)
      | (with_reducible exact knapsackref06_Apply.mono _ _ _ _)
      | (with_reducible exact LeO.refl _)
      | (with_reducible exact LeO.none _)
      | (with_reducible refine LeO.ite ?_ ?_)
      | (with_reducible refine LeO.bind ?_ (fun _ => ?_))
      | exact ih0 _ _ _ _
      | exact ih1 _ _
      | exact ih2 _ _ _ _
      | exact delta_Apply.mono _ _ _ _
      | exact delta_Size.mono _ _
      | exact knapsacklaw06_knows.mono _
      | exact knapsackref01_Get.mono _ _
      | exact knapsackref06_Apply.mono _ _ _ _
      | exact LeO.none _
      | refine LeO.ite ?_ ?_
      | refine LeO.bind ?_ (fun _ => ?_)
    · intro y0 y1
      unfold knapsacklaw06_DeltaApplies.j1
      repeat' first
      | (with_reducible exact ih0 _ _ _ _)
      | (with_reducible exact ih1 _ _)
      | (with_reducible exact ih2 _ _ _ _)
      | (with_reducible exact delta_Apply.mono _ _ _ _)
      | (with_reducible exact delta_Size.mono _ _)
      | (with_reducible exact knapsacklaw06_knows.mono _)
      | (with_reducible exact knapsackref01_Get.mono _ _)
      | (with_reducible exact knapsackref06_Apply.mono _ _ _ _)
      | (with_reducible exact LeO.refl _)
      | (with_reducible exact LeO.none _)
      | (with_reducible refine LeO.ite ?_ ?_)
      | (with_reducible refine LeO.bind ?_ (fun _ => ?_))
      | exact ih0 _ _ _ _
      | exact ih1 _ _
      | exact ih2 _ _ _ _
      | exact delta_Apply.mono _ _ _ _
      | exact delta_Size.mono _ _
      | exact knapsacklaw06_knows.mono _
      | exact knapsackref01_Get.mono _ _
      | exact knapsackref06_Apply.mono _ _ _ _
      | exact LeO.none _
      | refine LeO.ite ?_ ?_
      | refine LeO.bind ?_ (fun _ => ?_)
    · intro y0 y1 y2 y3
      unfold knapsacklaw06_DeltaApplies.j2
      repeat' first
      | (with_reducible exact ih0 _ _ _ _)
      | (with_reducible exact ih1 _ _)
      | (with_reducible exact ih2 _ _ _ _)
      | (with_reducible exact delta_Apply.mono _ _ _ _)
      | (with_reducible exact delta_Size.mono _ _)
      | (with_reducible exact knapsacklaw06_knows.mono _)
      | (with_reducible exact knapsackref01_Get.mono _ _)
      | (with_reducible exact knapsackref06_Apply.mono _ _ _ _)
      | (with_reducible exact LeO.refl _)
      | (with_reducible exact LeO.none _)
      | (with_reducible refine LeO.ite ?_ ?_)
      | (with_reducible refine LeO.bind ?_ (fun _ => ?_))
      | exact ih0 _ _ _ _
      | exact ih1 _ _
      | exact ih2 _ _ _ _
      | exact delta_Apply.mono _ _ _ _
      | exact delta_Size.mono _ _
      | exact knapsacklaw06_knows.mono _
      | exact knapsackref01_Get.mono _ _
      | exact knapsackref06_Apply.mono _ _ _ _
      | exact LeO.none _
      | refine LeO.ite ?_ ?_
      | refine LeO.bind ?_ (fun _ => ?_)
theorem knapsacklaw06_DeltaApplies.mono : ∀ a0 a1 a2 k, LeO (knapsacklaw06_DeltaApplies.f k a0 a1 a2) (knapsacklaw06_DeltaApplies.f (k + 1) a0 a1 a2) := by
  intro a0 a1 a2 k
  obtain ⟨ih0, ih1, ih2⟩ := knapsacklaw06_DeltaApplies.mono_l k
  unfold knapsacklaw06_DeltaApplies.f
  repeat' first
      | (with_reducible exact ih0 _ _ _ _)
      | (with_reducible exact ih1 _ _)
      | (with_reducible exact ih2 _ _ _ _)
      | (with_reducible exact delta_Apply.mono _ _ _ _)
      | (with_reducible exact delta_Size.mono _ _)
      | (with_reducible exact knapsacklaw06_knows.mono _)
      | (with_reducible exact knapsackref01_Get.mono _ _)
      | (with_reducible exact knapsackref06_Apply.mono _ _ _ _)
      | (with_reducible exact LeO.refl _)
      | (with_reducible exact LeO.none _)
      | (with_reducible refine LeO.ite ?_ ?_)
      | (with_reducible refine LeO.bind ?_ (fun _ => ?_))
      | exact ih0 _ _ _ _
      | exact ih1 _ _
      | exact ih2 _ _ _ _
      | exact delta_Apply.mono _ _ _ _
      | exact delta_Size.mono _ _
      | exact knapsacklaw06_knows.mono _
      | exact knapsackref01_Get.mono _ _
      | exact knapsackref06_Apply.mono _ _ _ _
      | exact LeO.none _
      | refine LeO.ite ?_ ?_
      | refine LeO.bind ?_ (fun _ => ?_)
set_option maxHeartbeats 8000000 in
set_option maxRecDepth 100000 in
theorem knapsacklaw06_DeltaApplies.calls (k : Nat) (a0 : ByteArray) (a1 : ByteArray) (a2 : Int) (r : Bool) (w : World) (h : knapsacklaw06_DeltaApplies.f k a0 a1 a2 = some r) :
    Calls Try.prog 7 #[.string a0, .string a1, .int .i64 a2] w fun e w' => e = .returned (.bool r) ∧ Below w.heap.size w w' := by
  have HB := Aside0.mk (Below.refl w.heap.size w)
  have H : (if (a0.size : Int) > 400 then (knapsacklaw06_DeltaApplies.j0 k a0 a1 a2 true) else (knapsacklaw06_DeltaApplies.j0 k a0 a1 a2 (decide ((a1.size : Int) > 400)))) = some r := h
  clear h
  have HC4 := Aside0.mk H
  clear H
  go_enter Try.func7, Try.ntmps7
  go_upto_region 1 with (fail)
  go_cut [24] (fun v24 wc => ∃ (kq : Nat) (x24_3 : Bool), v24 = .bool x24_3 ∧ Aside0 (knapsacklaw06_DeltaApplies.j0 kq a0 a1 a2 x24_3 = some r) ∧ Aside0 (kq ≤ k) ∧ Aside0 (Below w.heap.size w wc))
  case first =>
    have H := HC4.out
    clear HC4
    by_cases c5 : (a0.size : Int) > 400
    · rw [if_pos c5] at H
      have c5b0 : decide (400 < (a0.size : Int)) = true := decide_eq_true c5
      have c5b1 : decide (400 < a0.size) = true := decide_eq_true (by omega)
      clear c5
      (first | rw [c5b0] | (simp only [i64_w, i32_w]; rw [c5b0]) | skip)
      have H' := Aside0.mk H
      clear H
      go_wp2
      go_meet
      case rel => exact ⟨_, (true), (by first | rfl | (simp; done) | (simp; omega) | (simp [*]; done)), H', ⟨by first | omega | exact Nat.le_refl _⟩, ⟨by repeat (first | (with_reducible first | exact HB.out | apply below_alloc | apply pw_below_drewN | apply below_drew1) | exact HB.out)⟩⟩
    · rw [if_neg c5] at H
      have c5b0 : decide (400 < (a0.size : Int)) = false := decide_eq_false c5
      have c5b1 : decide (400 < a0.size) = false := decide_eq_false (by omega)
      clear c5
      (first | rw [c5b0] | (simp only [i64_w, i32_w]; rw [c5b0]) | skip)
      have H' := Aside0.mk H
      clear H
      go_wp2
      go_meet
      case rel => exact ⟨_, (decide ((a1.size : Int) > 400)), (by first | rfl | (simp; done) | (simp; omega) | (simp [*]; done)), H', ⟨by first | omega | exact Nat.le_refl _⟩, ⟨by repeat (first | (with_reducible first | exact HB.out | apply below_alloc | apply pw_below_drewN | apply below_drew1) | exact HB.out)⟩⟩
  case rest =>
    clear HC4
    try clear p2
    try clear c5
    try clear c5b0
    try clear c5b1
    obtain ⟨kq, x24_3, rfl, HA, HJ3, HB⟩ := hcut
    cases kq with
    | zero => exact absurd HA.out (by simp [knapsacklaw06_DeltaApplies.j0])
    | succ kj3 =>
      have H := HA.out
      clear HA
      simp only [knapsacklaw06_DeltaApplies.j0] at H
      by_cases c6 : x24_3 = true
      · subst c6
        have H1 : ((knapsacklaw06_knows.f kj3).bind fun t258 => (some t258)) = some r := by rw [if_pos rfl] at H; exact H
        clear H
        have H := H1
        clear H1
        replace H := Option.bind_eq_some_iff.mp H
        obtain ⟨t258, A70, H⟩ := H
        replace H : (some t258) = some r := H
        have A7 := Aside0.mk A70
        clear A70
        obtain rfl := Option.some.inj H
        go_wp2_with (first | ((with_reducible refine gate_callee (f := 28) rfl ?_); refine goesL_ (some 25) rfl rfl Try.func28 (by kernel_rfl) rfl #[] rfl (by (try simp only [List.map_toArray, List.map_cons, List.map_nil]); first | done | rfl | (simp only [List.length_drop, List.length_take]; rfl)) ?_; (with_reducible refine (knapsacklaw06_knows.calls kj3  t258 _ A7.out).mono ?_); rintro e w8 ⟨rfl, hb⟩; refine ⟨_, rfl, ?_⟩; have n0_ := Aside0.mk (below_step (by repeat (first | (with_reducible first | exact HB.out | apply below_alloc | apply pw_below_drewN | apply below_drew1) | exact HB.out)) hb); clear HB; have HB := n0_; clear n0_; (try clear hb); (try clear hb2); (try clear hk); (try clear hi)))
        go_ret
        exact ⟨by first | rfl | (simp [errW_none, errW_some] <;> rfl) | (simp [*, errW_none, errW_some] <;> rfl), by repeat (first | (with_reducible first | exact HB.out | apply below_alloc | apply pw_below_drewN | apply below_drew1) | exact HB.out)⟩
      · replace c6 := Bool.eq_false_iff.mpr c6
        subst c6
        have H1 : ((delta_Apply.f kj3 a0 a1 a2).bind fun bt259 => ((knapsackref06_Apply.f kj3 a0 a1 a2).bind fun bt261 => (if bt259.1.toList = bt261.1.toList then (knapsacklaw06_DeltaApplies.j1 kj3 a1 (bt259.2 != bt261.2)) else (knapsacklaw06_DeltaApplies.j1 kj3 a1 true)))) = some r := by rw [if_neg (show ¬ (false = true) by decide)] at H; exact H
        clear H
        have H := H1
        clear H1
        replace H := Option.bind_eq_some_iff.mp H
        obtain ⟨⟨t259, t260⟩, A90, H⟩ := H
        replace H : ((knapsackref06_Apply.f kj3 a0 a1 a2).bind fun bt261 => (if t259.toList = bt261.1.toList then (knapsacklaw06_DeltaApplies.j1 kj3 a1 (t260 != bt261.2)) else (knapsacklaw06_DeltaApplies.j1 kj3 a1 true))) = some r := H
        have A9 := Aside0.mk A90
        clear A90
        replace H := Option.bind_eq_some_iff.mp H
        obtain ⟨⟨t261, t262⟩, A100, H⟩ := H
        replace H : (if t259.toList = t261.toList then (knapsacklaw06_DeltaApplies.j1 kj3 a1 (t260 != t262)) else (knapsacklaw06_DeltaApplies.j1 kj3 a1 true)) = some r := H
        have A10 := Aside0.mk A100
        clear A100
        have HC11 := Aside0.mk H
        clear H
        go_upto_region 5 with (first | ((with_reducible refine gate_callee (f := 29) rfl ?_); refine goesL_ (some 30) rfl rfl Try.func29 (by kernel_rfl) rfl #[.string a0, .string a1, .int .i64 a2] rfl (by (try simp only [List.map_toArray, List.map_cons, List.map_nil]); first | done | rfl | (simp only [List.length_drop, List.length_take]; rfl)) ?_; (with_reducible refine (delta_Apply.calls kj3 a0 a1 a2 t259 t260 _ A9.out).mono ?_); rintro e w12 ⟨rfl, hb⟩; refine ⟨_, rfl, ?_⟩; have n0_ := Aside0.mk (below_step (by repeat (first | (with_reducible first | exact HB.out | apply below_alloc | apply pw_below_drewN | apply below_drew1) | exact HB.out)) hb); clear HB; have HB := n0_; clear n0_; (try clear hb); (try clear hb2); (try clear hk); (try clear hi)) | ((with_reducible refine gate_callee (f := 30) rfl ?_); refine goesL_ (some 37) rfl rfl Try.func30 (by kernel_rfl) rfl #[.string a0, .string a1, .int .i64 a2] rfl (by (try simp only [List.map_toArray, List.map_cons, List.map_nil]); first | done | rfl | (simp only [List.length_drop, List.length_take]; rfl)) ?_; (with_reducible refine (knapsackref06_Apply.calls kj3 a0 a1 a2 t261 t262 _ A10.out).mono ?_); rintro e w' ⟨rfl, ⟨nd, rfl⟩⟩; refine ⟨_, rfl, ?_⟩))
        (try simp only [Act.put, List.setIfInBounds_toArray, List.set_cons_zero, List.set_cons_succ])
        go_cut [47] (fun v47 wc => ∃ (kq : Nat) (x47_10 : Bool), v47 = .bool x47_10 ∧ Aside0 (knapsacklaw06_DeltaApplies.j1 kq a1 x47_10 = some r) ∧ Aside0 (kq ≤ kj3) ∧ Aside0 (Below w.heap.size w wc))
        case first =>
          have H := HC11.out
          clear HC11
          by_cases c13 : t259.toList = t261.toList
          · rw [if_pos c13] at H
            have c13b0 : (t259.toList == t261.toList) = true := beq_iff_eq.mpr c13
            have c13b1 : (t259.toList != t261.toList) = false := bne_eq_false_iff_eq.mpr c13
            clear c13
            (first | rw [c13b0] | (simp only [i64_w, i32_w]; rw [c13b0]) | skip)
            have H' := Aside0.mk H
            clear H
            go_wp2
            go_meet
            case rel => exact ⟨_, ((t260 != t262)), (by first | rfl | (simp; done) | (simp; omega) | (simp [*]; done)), H', ⟨by have := HJ3.out; first | omega | exact Nat.le_refl _⟩, ⟨by repeat (first | (with_reducible first | exact HB.out | apply below_alloc | apply pw_below_drewN | apply below_drew1) | exact HB.out)⟩⟩
          · rw [if_neg c13] at H
            have c13b0 : (t259.toList == t261.toList) = false := beq_eq_false_iff_ne.mpr c13
            have c13b1 : (t259.toList != t261.toList) = true := bne_iff_ne.mpr c13
            (first | rw [c13b0] | (simp only [i64_w, i32_w]; rw [c13b0]) | skip)
            have H' := Aside0.mk H
            clear H
            go_wp2
            go_meet
            case rel => exact ⟨_, (true), (by first | rfl | (simp; done) | (simp; omega) | (simp [*]; done)), H', ⟨by have := HJ3.out; first | omega | exact Nat.le_refl _⟩, ⟨by repeat (first | (with_reducible first | exact HB.out | apply below_alloc | apply pw_below_drewN | apply below_drew1) | exact HB.out)⟩⟩
        case rest =>
          clear HC11
          try clear c1
          try clear c2
          try clear p2
          try clear c3
          try clear c5
          try clear c5b0
          try clear c5b1
          try clear c6
          try clear c7
          try clear c13
          try clear c13b0
          try clear c13b1
          try clear p2
          obtain ⟨kq, x47_10, rfl, HA, HJ10, HB⟩ := hcut
          cases kq with
          | zero => exact absurd HA.out (by simp [knapsacklaw06_DeltaApplies.j1])
          | succ kj10 =>
            have H := HA.out
            clear HA
            simp only [knapsacklaw06_DeltaApplies.j1] at H
            by_cases c14 : x47_10 = true
            · subst c14
              have H1 : (some false) = some r := by rw [if_pos rfl] at H; exact H
              clear H
              have H := H1
              clear H1
              obtain rfl := Option.some.inj H
              go_wp2
              go_ret
              exact ⟨by first | rfl | (simp [errW_none, errW_some] <;> rfl) | (simp [*, errW_none, errW_some] <;> rfl), by repeat (first | (with_reducible first | exact HB.out | apply below_alloc | apply pw_below_drewN | apply below_drew1) | exact HB.out)⟩
            · replace c14 := Bool.eq_false_iff.mpr c14
              subst c14
              have H1 : ((delta_Size.f kj10 a1).bind fun bt263 => ((knapsackref01_Get.f kj10 a1).bind fun bt265 => (if 0 ≤ bt265.2 then (if bt265.2 ≤ (a1.size : Int) then ((knapsackref01_Get.f kj10 (a1.extract (bt265.2 : Int).toNat a1.size)).bind fun bt267 => (if bt265.2 = 0 then (knapsacklaw06_DeltaApplies.j2 kj10 bt263.1 bt263.2 bt267.1 true) else (if bt267.2 = 0 then (knapsacklaw06_DeltaApplies.j2 kj10 bt263.1 bt263.2 bt267.1 true) else (knapsacklaw06_DeltaApplies.j2 kj10 bt263.1 bt263.2 bt267.1 (decide (bt267.1 > 2147483647)))))) else (none)) else (none)))) = some r := by rw [if_neg (show ¬ (false = true) by decide)] at H; exact H
              clear H
              have H := H1
              clear H1
              replace H := Option.bind_eq_some_iff.mp H
              obtain ⟨⟨t263, t264⟩, A150, H⟩ := H
              replace H : ((knapsackref01_Get.f kj10 a1).bind fun bt265 => (if 0 ≤ bt265.2 then (if bt265.2 ≤ (a1.size : Int) then ((knapsackref01_Get.f kj10 (a1.extract (bt265.2 : Int).toNat a1.size)).bind fun bt267 => (if bt265.2 = 0 then (knapsacklaw06_DeltaApplies.j2 kj10 t263 t264 bt267.1 true) else (if bt267.2 = 0 then (knapsacklaw06_DeltaApplies.j2 kj10 t263 t264 bt267.1 true) else (knapsacklaw06_DeltaApplies.j2 kj10 t263 t264 bt267.1 (decide (bt267.1 > 2147483647)))))) else (none)) else (none))) = some r := H
              have A15 := Aside0.mk A150
              clear A150
              replace H := Option.bind_eq_some_iff.mp H
              obtain ⟨⟨t265, t266⟩, A160, H⟩ := H
              replace H : (if 0 ≤ t266 then (if t266 ≤ (a1.size : Int) then ((knapsackref01_Get.f kj10 (a1.extract (t266 : Int).toNat a1.size)).bind fun bt267 => (if t266 = 0 then (knapsacklaw06_DeltaApplies.j2 kj10 t263 t264 bt267.1 true) else (if bt267.2 = 0 then (knapsacklaw06_DeltaApplies.j2 kj10 t263 t264 bt267.1 true) else (knapsacklaw06_DeltaApplies.j2 kj10 t263 t264 bt267.1 (decide (bt267.1 > 2147483647)))))) else (none)) else (none)) = some r := H
              have A16 := Aside0.mk A160
              clear A160
              by_cases c17 : 0 ≤ t266
              · rw [if_pos c17] at H
                have c17b0 := eq_true c17
                have c17b1 : decide (0 ≤ t266) = true := decide_eq_true c17
                clear c17
                by_cases c18 : t266 ≤ (a1.size : Int)
                · rw [if_pos c18] at H
                  have c18b0 := eq_true c18
                  have c18b1 : decide (t266 ≤ (a1.size : Int)) = true := decide_eq_true c18
                  clear c18
                  replace H := Option.bind_eq_some_iff.mp H
                  obtain ⟨⟨t267, t268⟩, A190, H⟩ := H
                  replace H : (if t266 = 0 then (knapsacklaw06_DeltaApplies.j2 kj10 t263 t264 t267 true) else (if t268 = 0 then (knapsacklaw06_DeltaApplies.j2 kj10 t263 t264 t267 true) else (knapsacklaw06_DeltaApplies.j2 kj10 t263 t264 t267 (decide (t267 > 2147483647))))) = some r := H
                  have A19 := Aside0.mk A190
                  clear A190
                  have HC20 := Aside0.mk H
                  clear H
                  go_upto_region 10 with (first | ((with_reducible refine gate_callee (f := 31) rfl ?_); refine goesL_ (some 50) rfl rfl Try.func31 (by kernel_rfl) rfl #[.string a1] rfl (by (try simp only [List.map_toArray, List.map_cons, List.map_nil]); first | done | rfl | (simp only [List.length_drop, List.length_take]; rfl)) ?_; (with_reducible refine (delta_Size.calls kj10 a1 t263 t264 _ A15.out).mono ?_); rintro e w21 ⟨rfl, hb⟩; refine ⟨_, rfl, ?_⟩; have n0_ := Aside0.mk (below_step (by repeat (first | (with_reducible first | exact HB.out | apply below_alloc | apply pw_below_drewN | apply below_drew1) | exact HB.out)) hb); clear HB; have HB := n0_; clear n0_; (try clear hb); (try clear hb2); (try clear hk); (try clear hi)) | ((with_reducible refine gate_callee (f := 24) rfl ?_); refine goesL_ (some 55) rfl rfl Try.func24 (by kernel_rfl) rfl #[.string a1] rfl (by (try simp only [List.map_toArray, List.map_cons, List.map_nil]); first | done | rfl | (simp only [List.length_drop, List.length_take]; rfl)) ?_; (with_reducible refine (knapsackref01_Get.calls kj10 a1 t265 t266 _ A16.out).mono ?_); rintro e w' ⟨rfl, ⟨nd, rfl⟩⟩; refine ⟨_, rfl, ?_⟩) | ((with_reducible refine gate_callee (f := 24) rfl ?_); refine goesL_ (some 62) rfl rfl Try.func24 (by kernel_rfl) rfl #[.string (a1.extract (t266 : Int).toNat a1.size)] rfl (by (try simp only [List.map_toArray, List.map_cons, List.map_nil]); first | done | rfl | (simp only [List.length_drop, List.length_take]; rfl)) ?_; (with_reducible refine (knapsackref01_Get.calls kj10 (a1.extract (t266 : Int).toNat a1.size) t267 t268 _ A19.out).mono ?_); rintro e w' ⟨rfl, ⟨nd, rfl⟩⟩; refine ⟨_, rfl, ?_⟩))
                  (try simp only [Act.put, List.setIfInBounds_toArray, List.set_cons_zero, List.set_cons_succ])
                  go_cut [74] (fun v74 wc => ∃ (kq : Nat) (x74_19 : Bool), v74 = .bool x74_19 ∧ Aside0 (knapsacklaw06_DeltaApplies.j2 kq t263 t264 t267 x74_19 = some r) ∧ Aside0 (kq ≤ kj10) ∧ Aside0 (Below w.heap.size w wc))
                  case first =>
                    have H := HC20.out
                    clear HC20
                    by_cases c22 : t266 = 0
                    · rw [if_pos c22] at H
                      have c22b0 : (t266 == 0) = true := beq_iff_eq.mpr c22
                      have c22b1 : (t266 != 0) = false := bne_eq_false_iff_eq.mpr c22
                      clear c22
                      (first | rw [c22b0] | (simp only [i64_w, i32_w]; rw [c22b0]) | skip)
                      have H' := Aside0.mk H
                      clear H
                      go_wp2
                      go_meet
                      case rel => exact ⟨_, (true), (by first | rfl | (simp; done) | (simp; omega) | (simp [*]; done)), H', ⟨by have := HJ3.out; have := HJ10.out; first | omega | exact Nat.le_refl _⟩, ⟨by repeat (first | (with_reducible first | exact HB.out | apply below_alloc | apply pw_below_drewN | apply below_drew1) | exact HB.out)⟩⟩
                    · rw [if_neg c22] at H
                      have c22b0 : (t266 == 0) = false := beq_eq_false_iff_ne.mpr c22
                      have c22b1 : (t266 != 0) = true := bne_iff_ne.mpr c22
                      (first | rw [c22b0] | (simp only [i64_w, i32_w]; rw [c22b0]) | skip)
                      by_cases c23 : t268 = 0
                      · rw [if_pos c23] at H
                        have c23b0 : (t268 == 0) = true := beq_iff_eq.mpr c23
                        have c23b1 : (t268 != 0) = false := bne_eq_false_iff_eq.mpr c23
                        clear c23
                        have H' := Aside0.mk H
                        clear H
                        go_wp2
                        go_meet
                        case rel => exact ⟨_, (true), (by first | rfl | (simp; done) | (simp; omega) | (simp [*]; done)), H', ⟨by have := HJ3.out; have := HJ10.out; first | omega | exact Nat.le_refl _⟩, ⟨by repeat (first | (with_reducible first | exact HB.out | apply below_alloc | apply pw_below_drewN | apply below_drew1) | exact HB.out)⟩⟩
                      · rw [if_neg c23] at H
                        have c23b0 : (t268 == 0) = false := beq_eq_false_iff_ne.mpr c23
                        have c23b1 : (t268 != 0) = true := bne_iff_ne.mpr c23
                        have H' := Aside0.mk H
                        clear H
                        go_wp2
                        go_meet
                        case rel => exact ⟨_, (decide (t267 > 2147483647)), (by first | rfl | (simp; done) | (simp; omega) | (simp [*]; done)), H', ⟨by have := HJ3.out; have := HJ10.out; first | omega | exact Nat.le_refl _⟩, ⟨by repeat (first | (with_reducible first | exact HB.out | apply below_alloc | apply pw_below_drewN | apply below_drew1) | exact HB.out)⟩⟩
                  case rest =>
                    clear HC20
                    try clear c1
                    try clear c2
                    try clear p2
                    try clear c3
                    try clear c5
                    try clear c5b0
                    try clear c5b1
                    try clear c6
                    try clear c7
                    try clear c13
                    try clear c13b0
                    try clear c13b1
                    try clear c14
                    try clear c17
                    try clear c17b0
                    try clear c17b1
                    try clear c18
                    try clear c18b0
                    try clear c18b1
                    try clear c22
                    try clear c22b0
                    try clear c22b1
                    try clear c23
                    try clear c23b0
                    try clear c23b1
                    try clear p2
                    obtain ⟨kq, x74_19, rfl, HA, HJ19, HB⟩ := hcut
                    cases kq with
                    | zero => exact absurd HA.out (by simp [knapsacklaw06_DeltaApplies.j2])
                    | succ kj19 =>
                      have H := HA.out
                      clear HA
                      simp only [knapsacklaw06_DeltaApplies.j2] at H
                      by_cases c24 : x74_19 = true
                      · subst c24
                        have H1 : ((knapsacklaw06_knows.f kj19).bind fun t269 => (if t269 = true then (if t263 = 0 then (some (t264 == 2)) else (some false)) else (some false))) = some r := by rw [if_pos rfl] at H; exact H
                        clear H
                        have H := H1
                        clear H1
                        replace H := Option.bind_eq_some_iff.mp H
                        obtain ⟨t269, A250, H⟩ := H
                        replace H : (if t269 = true then (if t263 = 0 then (some (t264 == 2)) else (some false)) else (some false)) = some r := H
                        have A25 := Aside0.mk A250
                        clear A250
                        by_cases c26 : t269 = true
                        · subst c26
                          have H1 : (if t263 = 0 then (some (t264 == 2)) else (some false)) = some r := by rw [if_pos rfl] at H; exact H
                          clear H
                          have H := H1
                          clear H1
                          by_cases c27 : t263 = 0
                          · rw [if_pos c27] at H
                            have c27b0 : (t263 == 0) = true := beq_iff_eq.mpr c27
                            have c27b1 : (t263 != 0) = false := bne_eq_false_iff_eq.mpr c27
                            clear c27
                            obtain rfl := Option.some.inj H
                            go_wp2_with (first | ((with_reducible refine gate_callee (f := 28) rfl ?_); refine goesL_ (some 75) rfl rfl Try.func28 (by kernel_rfl) rfl #[] rfl (by (try simp only [List.map_toArray, List.map_cons, List.map_nil]); first | done | rfl | (simp only [List.length_drop, List.length_take]; rfl)) ?_; (with_reducible refine (knapsacklaw06_knows.calls kj19  true _ A25.out).mono ?_); rintro e w28 ⟨rfl, hb⟩; refine ⟨_, rfl, ?_⟩; have n0_ := Aside0.mk (below_step (by repeat (first | (with_reducible first | exact HB.out | apply below_alloc | apply pw_below_drewN | apply below_drew1) | exact HB.out)) hb); clear HB; have HB := n0_; clear n0_; (try clear hb); (try clear hb2); (try clear hk); (try clear hi)))
                            go_ret
                            exact ⟨by first | rfl | (simp [errW_none, errW_some] <;> rfl) | (simp [*, errW_none, errW_some] <;> rfl), by repeat (first | (with_reducible first | exact HB.out | apply below_alloc | apply pw_below_drewN | apply below_drew1) | exact HB.out)⟩
                          · rw [if_neg c27] at H
                            have c27b0 : (t263 == 0) = false := beq_eq_false_iff_ne.mpr c27
                            have c27b1 : (t263 != 0) = true := bne_iff_ne.mpr c27
                            obtain rfl := Option.some.inj H
                            go_wp2_with (first | ((with_reducible refine gate_callee (f := 28) rfl ?_); refine goesL_ (some 75) rfl rfl Try.func28 (by kernel_rfl) rfl #[] rfl (by (try simp only [List.map_toArray, List.map_cons, List.map_nil]); first | done | rfl | (simp only [List.length_drop, List.length_take]; rfl)) ?_; (with_reducible refine (knapsacklaw06_knows.calls kj19  true _ A25.out).mono ?_); rintro e w29 ⟨rfl, hb⟩; refine ⟨_, rfl, ?_⟩; have n0_ := Aside0.mk (below_step (by repeat (first | (with_reducible first | exact HB.out | apply below_alloc | apply pw_below_drewN | apply below_drew1) | exact HB.out)) hb); clear HB; have HB := n0_; clear n0_; (try clear hb); (try clear hb2); (try clear hk); (try clear hi)))
                            go_ret
                            exact ⟨by first | rfl | (simp [errW_none, errW_some] <;> rfl) | (simp [*, errW_none, errW_some] <;> rfl), by repeat (first | (with_reducible first | exact HB.out | apply below_alloc | apply pw_below_drewN | apply below_drew1) | exact HB.out)⟩
                        · replace c26 := Bool.eq_false_iff.mpr c26
                          subst c26
                          have H1 : (some false) = some r := by rw [if_neg (show ¬ (false = true) by decide)] at H; exact H
                          clear H
                          have H := H1
                          clear H1
                          obtain rfl := Option.some.inj H
                          go_wp2_with (first | ((with_reducible refine gate_callee (f := 28) rfl ?_); refine goesL_ (some 75) rfl rfl Try.func28 (by kernel_rfl) rfl #[] rfl (by (try simp only [List.map_toArray, List.map_cons, List.map_nil]); first | done | rfl | (simp only [List.length_drop, List.length_take]; rfl)) ?_; (with_reducible refine (knapsacklaw06_knows.calls kj19  false _ A25.out).mono ?_); rintro e w30 ⟨rfl, hb⟩; refine ⟨_, rfl, ?_⟩; have n0_ := Aside0.mk (below_step (by repeat (first | (with_reducible first | exact HB.out | apply below_alloc | apply pw_below_drewN | apply below_drew1) | exact HB.out)) hb); clear HB; have HB := n0_; clear n0_; (try clear hb); (try clear hb2); (try clear hk); (try clear hi)))
                          go_ret
                          exact ⟨by first | rfl | (simp [errW_none, errW_some] <;> rfl) | (simp [*, errW_none, errW_some] <;> rfl), by repeat (first | (with_reducible first | exact HB.out | apply below_alloc | apply pw_below_drewN | apply below_drew1) | exact HB.out)⟩
                      · replace c24 := Bool.eq_false_iff.mpr c24
                        subst c24
                        have H1 : ((knapsacklaw06_knows.f kj19).bind fun t270 => (if t270 = true then (if t263 = (wrap64 (t267)) then (some (t264 == 0)) else (some false)) else (some false))) = some r := by rw [if_neg (show ¬ (false = true) by decide)] at H; exact H
                        clear H
                        have H := H1
                        clear H1
                        replace H := Option.bind_eq_some_iff.mp H
                        obtain ⟨t270, A310, H⟩ := H
                        replace H : (if t270 = true then (if t263 = (wrap64 (t267)) then (some (t264 == 0)) else (some false)) else (some false)) = some r := H
                        have A31 := Aside0.mk A310
                        clear A310
                        by_cases c32 : t270 = true
                        · subst c32
                          have H1 : (if t263 = (wrap64 (t267)) then (some (t264 == 0)) else (some false)) = some r := by rw [if_pos rfl] at H; exact H
                          clear H
                          have H := H1
                          clear H1
                          by_cases c33 : t263 = (wrap64 (t267))
                          · rw [if_pos c33] at H
                            have c33b0 : (t263 == (wrap64 (t267))) = true := beq_iff_eq.mpr c33
                            have c33b1 : (t263 != (wrap64 (t267))) = false := bne_eq_false_iff_eq.mpr c33
                            clear c33
                            obtain rfl := Option.some.inj H
                            go_wp2_with (first | ((with_reducible refine gate_callee (f := 28) rfl ?_); refine goesL_ (some 84) rfl rfl Try.func28 (by kernel_rfl) rfl #[] rfl (by (try simp only [List.map_toArray, List.map_cons, List.map_nil]); first | done | rfl | (simp only [List.length_drop, List.length_take]; rfl)) ?_; (with_reducible refine (knapsacklaw06_knows.calls kj19  true _ A31.out).mono ?_); rintro e w34 ⟨rfl, hb⟩; refine ⟨_, rfl, ?_⟩; have n0_ := Aside0.mk (below_step (by repeat (first | (with_reducible first | exact HB.out | apply below_alloc | apply pw_below_drewN | apply below_drew1) | exact HB.out)) hb); clear HB; have HB := n0_; clear n0_; (try clear hb); (try clear hb2); (try clear hk); (try clear hi)))
                            go_ret
                            exact ⟨by first | rfl | (simp [errW_none, errW_some] <;> rfl) | (simp [*, errW_none, errW_some] <;> rfl), by repeat (first | (with_reducible first | exact HB.out | apply below_alloc | apply pw_below_drewN | apply below_drew1) | exact HB.out)⟩
                          · rw [if_neg c33] at H
                            have c33b0 : (t263 == (wrap64 (t267))) = false := beq_eq_false_iff_ne.mpr c33
                            have c33b1 : (t263 != (wrap64 (t267))) = true := bne_iff_ne.mpr c33
                            obtain rfl := Option.some.inj H
                            go_wp2_with (first | ((with_reducible refine gate_callee (f := 28) rfl ?_); refine goesL_ (some 84) rfl rfl Try.func28 (by kernel_rfl) rfl #[] rfl (by (try simp only [List.map_toArray, List.map_cons, List.map_nil]); first | done | rfl | (simp only [List.length_drop, List.length_take]; rfl)) ?_; (with_reducible refine (knapsacklaw06_knows.calls kj19  true _ A31.out).mono ?_); rintro e w35 ⟨rfl, hb⟩; refine ⟨_, rfl, ?_⟩; have n0_ := Aside0.mk (below_step (by repeat (first | (with_reducible first | exact HB.out | apply below_alloc | apply pw_below_drewN | apply below_drew1) | exact HB.out)) hb); clear HB; have HB := n0_; clear n0_; (try clear hb); (try clear hb2); (try clear hk); (try clear hi)))
                            go_ret
                            exact ⟨by first | rfl | (simp [errW_none, errW_some] <;> rfl) | (simp [*, errW_none, errW_some] <;> rfl), by repeat (first | (with_reducible first | exact HB.out | apply below_alloc | apply pw_below_drewN | apply below_drew1) | exact HB.out)⟩
                        · replace c32 := Bool.eq_false_iff.mpr c32
                          subst c32
                          have H1 : (some false) = some r := by rw [if_neg (show ¬ (false = true) by decide)] at H; exact H
                          clear H
                          have H := H1
                          clear H1
                          obtain rfl := Option.some.inj H
                          go_wp2_with (first | ((with_reducible refine gate_callee (f := 28) rfl ?_); refine goesL_ (some 84) rfl rfl Try.func28 (by kernel_rfl) rfl #[] rfl (by (try simp only [List.map_toArray, List.map_cons, List.map_nil]); first | done | rfl | (simp only [List.length_drop, List.length_take]; rfl)) ?_; (with_reducible refine (knapsacklaw06_knows.calls kj19  false _ A31.out).mono ?_); rintro e w36 ⟨rfl, hb⟩; refine ⟨_, rfl, ?_⟩; have n0_ := Aside0.mk (below_step (by repeat (first | (with_reducible first | exact HB.out | apply below_alloc | apply pw_below_drewN | apply below_drew1) | exact HB.out)) hb); clear HB; have HB := n0_; clear n0_; (try clear hb); (try clear hb2); (try clear hk); (try clear hi)))
                          go_ret
                          exact ⟨by first | rfl | (simp [errW_none, errW_some] <;> rfl) | (simp [*, errW_none, errW_some] <;> rfl), by repeat (first | (with_reducible first | exact HB.out | apply below_alloc | apply pw_below_drewN | apply below_drew1) | exact HB.out)⟩
                · rw [if_neg c18] at H
                  exact absurd H (by simp)
              · rw [if_neg c17] at H
                exact absurd H (by simp)

/-- THE ONE PURE STATEMENT of knapsacklaw06_DeltaApplies: yours. -/
def knapsacklaw06_DeltaApplies.Pure : Prop := ∀ (a0 : ByteArray) (a1 : ByteArray) (a2 : Int), a0.size ≤ 140737488351232 → a1.size ≤ 140737488351232 → (Lit.int .i64 a2).wf = true → ∃ k, knapsacklaw06_DeltaApplies.f k a0 a1 a2 = some true
theorem knapsacklaw06_DeltaApplies.walk (P : knapsacklaw06_DeltaApplies.Pure) (a0 : ByteArray) (a1 : ByteArray) (a2 : Int) (w : World) (w0 : a0.size ≤ 140737488351232) (w1 : a1.size ≤ 140737488351232) (w2 : (Lit.int .i64 a2).wf = true) :
    Calls Try.prog 7 #[.string a0, .string a1, .int .i64 a2] w fun e w' => e = .returned (.bool true) ∧ Below w.heap.size w w' := by
  obtain ⟨k, h⟩ := P a0 a1 a2 w0 w1 w2
  refine (knapsacklaw06_DeltaApplies.calls k a0 a1 a2 true w h).mono ?_
  rintro e w' ⟨rfl, hd⟩
  exact ⟨rfl, hd⟩

/-! ### delta_plain: function 52 -/
def delta_plain.f (k : Nat) (a0 : ByteArray) : Option (ByteArray) := if a0.toList = ([] : List UInt8) then (some (⟨#[]⟩ : ByteArray)) else ((varint_Put.f k (IntKind.u64.wrap (wrap64 (2 * (a0.size : Int))))).bind fun t271 => (if t271.size + a0.size ≤ 9223372036854775807 then (some (t271 ++ a0)) else (none)))
theorem delta_plain.mono : ∀ a0 k, LeO (delta_plain.f k a0) (delta_plain.f (k + 1) a0) := by
  intro a0 k
  unfold delta_plain.f
  repeat' first
      | (with_reducible exact varint_Put.mono _ _)
      | (with_reducible exact LeO.refl _)
      | (with_reducible exact LeO.none _)
      | (with_reducible refine LeO.ite ?_ ?_)
      | (with_reducible refine LeO.bind ?_ (fun _ => ?_))
      | exact varint_Put.mono _ _
      | exact LeO.none _
      | refine LeO.ite ?_ ?_
      | refine LeO.bind ?_ (fun _ => ?_)
set_option maxHeartbeats 8000000 in
set_option maxRecDepth 100000 in
theorem delta_plain.calls (k : Nat) (a0 : ByteArray) (r : ByteArray) (w : World) (h : delta_plain.f k a0 = some r) :
    Calls Try.prog 52 #[.string a0] w fun e w' => e = .returned (.string r) ∧ Below w.heap.size w w' := by
  have HB := Aside0.mk (Below.refl w.heap.size w)
  have H : (if a0.toList = ([] : List UInt8) then (some (⟨#[]⟩ : ByteArray)) else ((varint_Put.f k (IntKind.u64.wrap (wrap64 (2 * (a0.size : Int))))).bind fun t271 => (if t271.size + a0.size ≤ 9223372036854775807 then (some (t271 ++ a0)) else (none)))) = some r := h
  clear h
  by_cases c2 : a0.toList = ([] : List UInt8)
  · rw [if_pos c2] at H
    have c2b0 : (a0.toList == ([] : List UInt8)) = true := beq_iff_eq.mpr c2
    have c2b1 : (a0.toList != ([] : List UInt8)) = false := bne_eq_false_iff_eq.mpr c2
    clear c2
    obtain rfl := Option.some.inj H
    go_enter Try.func52, Try.ntmps52
    go_wp2
    go_ret
    exact ⟨by first | rfl | (simp [errW_none, errW_some] <;> rfl) | (simp [*, errW_none, errW_some] <;> rfl), by repeat (first | (with_reducible first | exact HB.out | apply below_alloc | apply pw_below_drewN | apply below_drew1) | exact HB.out)⟩
  · rw [if_neg c2] at H
    have c2b0 : (a0.toList == ([] : List UInt8)) = false := beq_eq_false_iff_ne.mpr c2
    have c2b1 : (a0.toList != ([] : List UInt8)) = true := bne_iff_ne.mpr c2
    replace H := Option.bind_eq_some_iff.mp H
    obtain ⟨t271, A30, H⟩ := H
    replace H : (if t271.size + a0.size ≤ 9223372036854775807 then (some (t271 ++ a0)) else (none)) = some r := H
    have A3 := Aside0.mk A30
    clear A30
    by_cases c4 : t271.size + a0.size ≤ 9223372036854775807
    · rw [if_pos c4] at H
      have c4b1 : decide (t271.size + a0.size ≤ 9223372036854775807) = true := decide_eq_true c4
      try have c4b2 : (9223372036854775807 < t271.size + a0.size) = False := eq_false (Nat.not_lt.2 c4)
      clear c4
      obtain rfl := Option.some.inj H
      go_enter Try.func52, Try.ntmps52
      go_wp2_with (first | ((with_reducible refine gate_callee (f := 19) rfl ?_); refine goesL_ (some 9) rfl rfl Try.func19 (by kernel_rfl) rfl #[.int .u64 (IntKind.u64.wrap (wrap64 (2 * (a0.size : Int))))] rfl (by (try simp only [List.map_toArray, List.map_cons, List.map_nil]); first | done | rfl | (simp only [List.length_drop, List.length_take]; rfl)) ?_; (with_reducible refine (varint_Put.calls k (IntKind.u64.wrap (wrap64 (2 * (a0.size : Int)))) t271 _ A3.out).mono ?_); rintro e w5 ⟨rfl, hb⟩; refine ⟨_, rfl, ?_⟩; have n0_ := Aside0.mk (below_step (by repeat (first | (with_reducible first | exact HB.out | apply below_alloc | apply pw_below_drewN | apply below_drew1) | exact HB.out)) hb); clear HB; have HB := n0_; clear n0_; (try clear hb); (try clear hb2); (try clear hk); (try clear hi)))
      go_ret
      exact ⟨by first | rfl | (simp [errW_none, errW_some] <;> rfl) | (simp [*, errW_none, errW_some] <;> rfl), by repeat (first | (with_reducible first | exact HB.out | apply below_alloc | apply pw_below_drewN | apply below_drew1) | exact HB.out)⟩
    · rw [if_neg c4] at H
      exact absurd H (by simp)

/-! ### delta_key: function 53 -/
def delta_key.f (a0 : ByteArray) : Option (Int) := if 0 < (a0.size : Int) then (if 1 < (a0.size : Int) then (if 2 < (a0.size : Int) then (if 3 < (a0.size : Int) then (some (Go.bits .or .u32 (Go.bits .or .u32 (Go.bits .or .u32 ((bt a0 0) % 4294967296) ((((bt a0 1) % 4294967296) * 256) % 4294967296)) ((((bt a0 2) % 4294967296) * 65536) % 4294967296)) ((((bt a0 3) % 4294967296) * 16777216) % 4294967296))) else (none)) else (none)) else (none)) else (none)
set_option maxHeartbeats 8000000 in
set_option maxRecDepth 100000 in
theorem delta_key.calls (a0 : ByteArray) (r : Int) (w : World) (h : delta_key.f a0 = some r) :
    Calls Try.prog 53 #[.string a0] w fun e w' => e = .returned (.int .u32 r) ∧ Drawn0 w w' := by
  have H : (if 0 < (a0.size : Int) then (if 1 < (a0.size : Int) then (if 2 < (a0.size : Int) then (if 3 < (a0.size : Int) then (some (Go.bits .or .u32 (Go.bits .or .u32 (Go.bits .or .u32 ((bt a0 0) % 4294967296) ((((bt a0 1) % 4294967296) * 256) % 4294967296)) ((((bt a0 2) % 4294967296) * 65536) % 4294967296)) ((((bt a0 3) % 4294967296) * 16777216) % 4294967296))) else (none)) else (none)) else (none)) else (none)) = some r := h
  clear h
  by_cases c2 : 0 < (a0.size : Int)
  · rw [if_pos c2] at H
    have c2b0 : decide (0 < (a0.size : Int)) = true := decide_eq_true c2
    have c2b1 : decide (0 < a0.size) = true := decide_eq_true (by omega)
    clear c2
    by_cases c4 : 1 < (a0.size : Int)
    · rw [if_pos c4] at H
      have c4b0 : decide (1 < (a0.size : Int)) = true := decide_eq_true c4
      have c4b1 : decide (1 < a0.size) = true := decide_eq_true (by omega)
      clear c4
      by_cases c6 : 2 < (a0.size : Int)
      · rw [if_pos c6] at H
        have c6b0 : decide (2 < (a0.size : Int)) = true := decide_eq_true c6
        have c6b1 : decide (2 < a0.size) = true := decide_eq_true (by omega)
        clear c6
        by_cases c8 : 3 < (a0.size : Int)
        · rw [if_pos c8] at H
          have c8b0 : decide (3 < (a0.size : Int)) = true := decide_eq_true c8
          have c8b1 : decide (3 < a0.size) = true := decide_eq_true (by omega)
          clear c8
          obtain rfl := Option.some.inj H
          have p3 : 0 ≤ (0 : Int) := (by omega)
          have q3 : 0 < a0.size := (by have : (0 : Int) < (a0.size : Int) := of_decide_eq_true (by first | (with_reducible assumption) | assumption); omega)
          have hx3 : ∀ h : 0 < a0.size, ((a0[0]'h).toNat : Int) = bt a0 0 := bt_at a0 0
          clear p3
          have qi3 : (0 < (a0.size : Int)) = True := eq_true (of_decide_eq_true (by first | (with_reducible assumption) | assumption))
          replace q3 := eq_true q3
          have p5 : 0 ≤ (1 : Int) := (by omega)
          have q5 : 1 < a0.size := (by have : (1 : Int) < (a0.size : Int) := of_decide_eq_true (by first | (with_reducible assumption) | assumption); omega)
          have hx5 : ∀ h : 1 < a0.size, ((a0[1]'h).toNat : Int) = bt a0 1 := bt_at a0 1
          clear p5
          have qi5 : (1 < (a0.size : Int)) = True := eq_true (of_decide_eq_true (by first | (with_reducible assumption) | assumption))
          replace q5 := eq_true q5
          have p7 : 0 ≤ (2 : Int) := (by omega)
          have q7 : 2 < a0.size := (by have : (2 : Int) < (a0.size : Int) := of_decide_eq_true (by first | (with_reducible assumption) | assumption); omega)
          have hx7 : ∀ h : 2 < a0.size, ((a0[2]'h).toNat : Int) = bt a0 2 := bt_at a0 2
          clear p7
          have qi7 : (2 < (a0.size : Int)) = True := eq_true (of_decide_eq_true (by first | (with_reducible assumption) | assumption))
          replace q7 := eq_true q7
          have p9 : 0 ≤ (3 : Int) := (by omega)
          have q9 : 3 < a0.size := (by have : (3 : Int) < (a0.size : Int) := of_decide_eq_true (by first | (with_reducible assumption) | assumption); omega)
          have hx9 : ∀ h : 3 < a0.size, ((a0[3]'h).toNat : Int) = bt a0 3 := bt_at a0 3
          clear p9
          have qi9 : (3 < (a0.size : Int)) = True := eq_true (of_decide_eq_true (by first | (with_reducible assumption) | assumption))
          replace q9 := eq_true q9
          go_enter Try.func53, Try.ntmps53
          go_wp2
          repeat (go_quiet (fail); try go_wp2)
          go_ret
          exact ⟨by first | rfl | (simp; done) | (simp; omega) | (simp [*]; done), by repeat (first | exact Drawn0.refl _ | apply Drawn0.step)⟩
        · rw [if_neg c8] at H
          exact absurd H (by simp)
      · rw [if_neg c6] at H
        exact absurd H (by simp)
    · rw [if_neg c4] at H
      exact absurd H (by simp)
  · rw [if_neg c2] at H
    exact absurd H (by simp)

/-! ### delta_alike: function 54 -/
def delta_alike.l0 : Nat → ByteArray → ByteArray → Int → Option (Int)
  | 0, _, _, _ => none
  | k + 1, x0, x1, x5 => if x5 < (x0.size : Int) then (if x5 < (x1.size : Int) then (if 0 ≤ x5 then (if (bt x0 x5) = (bt x1 x5) then (delta_alike.l0 k x0 x1 (wrap64 (x5 + 1))) else (some x5)) else (none)) else (some x5)) else (some x5)
def delta_alike.f (k : Nat) (a0 : ByteArray) (a1 : ByteArray) : Option (Int) := delta_alike.l0 k a0 a1 0
theorem delta_alike.mono_l : ∀ k, (∀ y0 y1 y2, LeO (delta_alike.l0 k y0 y1 y2) (delta_alike.l0 (k + 1) y0 y1 y2))
  | 0 => fun _ _ _ r h => by simp [delta_alike.l0] at h
  | k + 1 => by
    have ih0 := delta_alike.mono_l k
    · intro y0 y1 y2
      unfold delta_alike.l0
      repeat' first
      | (with_reducible exact ih0 _ _ _)
      | (with_reducible exact LeO.refl _)
      | (with_reducible exact LeO.none _)
      | (with_reducible refine LeO.ite ?_ ?_)
      | (with_reducible refine LeO.bind ?_ (fun _ => ?_))
      | exact ih0 _ _ _
      | exact LeO.none _
      | refine LeO.ite ?_ ?_
      | refine LeO.bind ?_ (fun _ => ?_)
theorem delta_alike.mono : ∀ a0 a1 k, LeO (delta_alike.f k a0 a1) (delta_alike.f (k + 1) a0 a1) := by
  intro a0 a1 k
  have ih0 := delta_alike.mono_l k
  unfold delta_alike.f
  repeat' first
      | (with_reducible exact ih0 _ _ _)
      | (with_reducible exact LeO.refl _)
      | (with_reducible exact LeO.none _)
      | (with_reducible refine LeO.ite ?_ ?_)
      | (with_reducible refine LeO.bind ?_ (fun _ => ?_))
      | exact ih0 _ _ _
      | exact LeO.none _
      | refine LeO.ite ?_ ?_
      | refine LeO.bind ?_ (fun _ => ?_)
set_option maxHeartbeats 8000000 in
set_option maxRecDepth 100000 in
theorem delta_alike.calls (k : Nat) (a0 : ByteArray) (a1 : ByteArray) (r : Int) (w : World) (h : delta_alike.f k a0 a1 = some r) :
    Calls Try.prog 54 #[.string a0, .string a1] w fun e w' => e = .returned (.int .i64 r) ∧ Drawn0 w w' := by
  have H : (delta_alike.l0 k a0 a1 0) = some r := h
  clear h
  have H' := Aside0.mk H
  clear H
  go_enter Try.func54, Try.ntmps54
  go_wp2
  repeat (go_quiet (fail); try go_wp2)
  go_loopg [5] k (fun kq v5 w' => ∃ (x5_1 : Int), v5 = .int .i64 x5_1 ∧ Aside0 (delta_alike.l0 kq a0 a1 x5_1 = some r) ∧ Aside0 (kq ≤ k) ∧ Drawn0 w w')
  case atStart => exact ⟨(0), (by first | rfl | (simp; done) | (simp; omega) | (simp [*]; done)), H', ⟨Nat.le_refl _⟩, by repeat (first | exact Drawn0.refl _ | apply Drawn0.step)⟩
  case round =>
    clear H'
    try clear p2
    obtain ⟨x5_1, rfl, HA, HK1, ⟨m1, rfl⟩⟩ := hrel
    cases gk with
    | zero => exact absurd HA.out (by simp [delta_alike.l0])
    | succ k1 =>
      have H := HA.out
      clear HA
      simp only [delta_alike.l0] at H
      by_cases c3 : x5_1 < (a0.size : Int)
      · rw [if_pos c3] at H
        have c3b0 : decide (x5_1 < (a0.size : Int)) = true := decide_eq_true c3
        clear c3
        by_cases c4 : x5_1 < (a1.size : Int)
        · rw [if_pos c4] at H
          have c4b0 : decide (x5_1 < (a1.size : Int)) = true := decide_eq_true c4
          clear c4
          by_cases c5 : 0 ≤ x5_1
          · rw [if_pos c5] at H
            have c5b0 : decide (0 ≤ x5_1) = true := decide_eq_true c5
            clear c5
            by_cases c8 : (bt a0 x5_1) = (bt a1 x5_1)
            · rw [if_pos c8] at H
              have c8b0 : ((bt a0 x5_1) == (bt a1 x5_1)) = true := beq_iff_eq.mpr c8
              have c8b1 : ((bt a0 x5_1) != (bt a1 x5_1)) = false := bne_eq_false_iff_eq.mpr c8
              clear c8
              have H' := Aside0.mk H
              clear H
              have p6 : 0 ≤ (x5_1 : Int) := of_decide_eq_true (by first | (with_reducible assumption) | assumption)
              have q6 : x5_1 < (a0.size : Int) := of_decide_eq_true (by first | (with_reducible assumption) | assumption)
              have hx6 := bt_at a0 x5_1
              replace p6 := eq_true p6
              replace q6 := eq_true q6
              have p7 : 0 ≤ (x5_1 : Int) := of_decide_eq_true (by first | (with_reducible assumption) | assumption)
              have q7 : x5_1 < (a1.size : Int) := of_decide_eq_true (by first | (with_reducible assumption) | assumption)
              have hx7 := bt_at a1 x5_1
              replace p7 := eq_true p7
              replace q7 := eq_true q7
              go_wp2
              repeat (go_quiet (fail); try go_wp2)
              go_roundg k1
              case measure => have := HK1.out; omega
              case rel => exact ⟨(wrap64 (x5_1 + 1)), (by first | rfl | (simp; done) | (simp; omega) | (simp [*]; done)), H', ⟨by have := HK1.out; omega⟩, by repeat (first | exact Drawn0.refl _ | apply Drawn0.step)⟩
            · rw [if_neg c8] at H
              have c8b0 : ((bt a0 x5_1) == (bt a1 x5_1)) = false := beq_eq_false_iff_ne.mpr c8
              have c8b1 : ((bt a0 x5_1) != (bt a1 x5_1)) = true := bne_iff_ne.mpr c8
              obtain rfl := Option.some.inj H
              have p6 : 0 ≤ (x5_1 : Int) := of_decide_eq_true (by first | (with_reducible assumption) | assumption)
              have q6 : x5_1 < (a0.size : Int) := of_decide_eq_true (by first | (with_reducible assumption) | assumption)
              have hx6 := bt_at a0 x5_1
              replace p6 := eq_true p6
              replace q6 := eq_true q6
              have p7 : 0 ≤ (x5_1 : Int) := of_decide_eq_true (by first | (with_reducible assumption) | assumption)
              have q7 : x5_1 < (a1.size : Int) := of_decide_eq_true (by first | (with_reducible assumption) | assumption)
              have hx7 := bt_at a1 x5_1
              replace p7 := eq_true p7
              replace q7 := eq_true q7
              go_wp2
              repeat (go_quiet (fail); try go_wp2)
              go_ret
              exact ⟨by first | rfl | (simp; done) | (simp; omega) | (simp [*]; done), by repeat (first | exact Drawn0.refl _ | apply Drawn0.step)⟩
          · rw [if_neg c5] at H
            exact absurd H (by simp)
        · rw [if_neg c4] at H
          have c4b0 : decide (x5_1 < (a1.size : Int)) = false := decide_eq_false c4
          clear c4
          obtain rfl := Option.some.inj H
          go_wp2
          repeat (go_quiet (fail); try go_wp2)
          go_ret
          exact ⟨by first | rfl | (simp; done) | (simp; omega) | (simp [*]; done), by repeat (first | exact Drawn0.refl _ | apply Drawn0.step)⟩
      · rw [if_neg c3] at H
        have c3b0 : decide (x5_1 < (a0.size : Int)) = false := decide_eq_false c3
        clear c3
        obtain rfl := Option.some.inj H
        go_wp2
        repeat (go_quiet (fail); try go_wp2)
        go_ret
        exact ⟨by first | rfl | (simp; done) | (simp; omega) | (simp [*]; done), by repeat (first | exact Drawn0.refl _ | apply Drawn0.step)⟩

end Go.Proofs.Ytnmnplbjhejejaa.PA
