-- Written by a turned copy of the printer (wip/patchprint.py of this repo), with contracts of this session beside; Lean checks it.
import Derived.Test.YtnmnplbjhejejaaPAx0
import Derived.Test.YtnmnplbjhejejaaPAx9
import Derived.Test.YtnmnplbjhejejaaPAx10
import Derived.Test.YtnmnplbjhejejaaPAx12
namespace Go.Proofs.Ytnmnplbjhejejaa.PA
open Go.RowKit Go.Proofs.YtnmnplbjhejejaaW.PrintWords Go.Proofs.YtnmnplbjhejejaaW.PrintLast Go.Proofs.YtnmnplbjhejejaaW.PrintMore
attribute [local go_sem] max2_int min2_int max_two min_two max_three min_three max_four min_four   -- for this text's walks alone
set_option linter.unusedVariables false
set_option linter.unusedSimpArgs false

/-! ### knapsacklaw06_DeltaBack: function 11 -/
mutual
def knapsacklaw06_DeltaBack.j0 : Nat → ByteArray → ByteArray → Bool → Option (Bool)
  | 0, _, _, _ => none
  | k + 1, x0, x1, x26 => if x26 = true then ((knapsacklaw06_knows.f k).bind fun t278 => (some t278)) else ((delta_Make.f k x0 x1).bind fun t279 => ((delta_Apply.f k x0 t279 (x1.size : Int)).bind fun bt280 => ((knapsackref06_Apply.f k x0 t279 (x1.size : Int)).bind fun bt282 => (if bt280.1.toList = x1.toList then (if bt280.2 = 0 then (if bt282.1.toList = x1.toList then (if bt282.2 = 0 then (knapsacklaw06_DeltaBack.j1 k x0 x1 t279 (decide ((t279.size : Int) > (wrap64 ((x1.size : Int) + 30))))) else (knapsacklaw06_DeltaBack.j1 k x0 x1 t279 true)) else (knapsacklaw06_DeltaBack.j1 k x0 x1 t279 true)) else (knapsacklaw06_DeltaBack.j1 k x0 x1 t279 true)) else (knapsacklaw06_DeltaBack.j1 k x0 x1 t279 true)))))
def knapsacklaw06_DeltaBack.j1 : Nat → ByteArray → ByteArray → ByteArray → Bool → Option (Bool)
  | 0, _, _, _, _ => none
  | k + 1, x0, x1, x5, x70 => if x70 = true then (some false) else ((delta_Apply.f k x0 x5 (wrap64 ((x1.size : Int) - 1))).bind fun bt284 => (if x0.size + 1 ≤ 9223372036854775807 then ((delta_Apply.f k (x0 ++ (⟨#[120]⟩ : ByteArray)) x5 (x1.size : Int)).bind fun bt286 => ((delta_Size.f k x5).bind fun bt288 => (if x1.toList = ([] : List UInt8) then (if bt286.2 = 6 then (if bt288.1 = (x1.size : Int) then (knapsacklaw06_DeltaBack.j2 k x0 (bt288.2 != 0)) else (knapsacklaw06_DeltaBack.j2 k x0 true)) else (knapsacklaw06_DeltaBack.j2 k x0 true)) else (if bt284.2 = 3 then (if bt286.2 = 6 then (if bt288.1 = (x1.size : Int) then (knapsacklaw06_DeltaBack.j2 k x0 (bt288.2 != 0)) else (knapsacklaw06_DeltaBack.j2 k x0 true)) else (knapsacklaw06_DeltaBack.j2 k x0 true)) else (knapsacklaw06_DeltaBack.j2 k x0 true))))) else (none)))
def knapsacklaw06_DeltaBack.j2 : Nat → ByteArray → Bool → Option (Bool)
  | 0, _, _ => none
  | k + 1, x0, x113 => if x113 = true then (some false) else ((delta_Make.f k x0 x0).bind fun t290 => ((delta_Apply.f k x0 t290 (x0.size : Int)).bind fun bt291 => ((knapsacklaw06_knows.f k).bind fun t293 => (if t293 = true then (if (t290.size : Int) ≤ 40 then (if bt291.1.toList = x0.toList then (some (bt291.2 == 0)) else (some false)) else (some false)) else (some false)))))
end
def knapsacklaw06_DeltaBack.f (k : Nat) (a0 : ByteArray) (a1 : ByteArray) : Option (Bool) := if (a0.size : Int) > 1500 then (knapsacklaw06_DeltaBack.j0 k a0 a1 true) else (knapsacklaw06_DeltaBack.j0 k a0 a1 (decide ((a1.size : Int) > 1500)))
theorem knapsacklaw06_DeltaBack.mono_l : ∀ k, (∀ y0 y1 y2, LeO (knapsacklaw06_DeltaBack.j0 k y0 y1 y2) (knapsacklaw06_DeltaBack.j0 (k + 1) y0 y1 y2)) ∧ (∀ y0 y1 y2 y3, LeO (knapsacklaw06_DeltaBack.j1 k y0 y1 y2 y3) (knapsacklaw06_DeltaBack.j1 (k + 1) y0 y1 y2 y3)) ∧ (∀ y0 y1, LeO (knapsacklaw06_DeltaBack.j2 k y0 y1) (knapsacklaw06_DeltaBack.j2 (k + 1) y0 y1))
  | 0 => ⟨fun _ _ _ r h => by simp [knapsacklaw06_DeltaBack.j0] at h, fun _ _ _ _ r h => by simp [knapsacklaw06_DeltaBack.j1] at h, fun _ _ r h => by simp [knapsacklaw06_DeltaBack.j2] at h⟩
  | k + 1 => by
    obtain ⟨ih0, ih1, ih2⟩ := knapsacklaw06_DeltaBack.mono_l k
    refine ⟨?_, ?_, ?_⟩
    · intro y0 y1 y2
      unfold knapsacklaw06_DeltaBack.j0
      repeat' first
      | (with_reducible exact ih0 _ _ _)
      | (with_reducible exact ih1 _ _ _ _)
      | (with_reducible exact ih2 _ _)
      | (with_reducible exact delta_Apply.mono _ _ _ _)
      | (with_reducible exact delta_Make.mono _ _ _)
      | (with_reducible exact delta_Size.mono _ _)
      | (with_reducible exact knapsacklaw06_knows.mono _)
      | (with_reducible exact knapsackref06_Apply.mono _ _ _ _)
      | (with_reducible exact LeO.refl _)
      | (with_reducible exact LeO.none _)
      | (with_reducible refine LeO.ite ?_ ?_)
      | (with_reducible refine LeO.bind ?_ (fun _ => ?_))
      | exact ih0 _ _ _
      | exact ih1 _ _ _ _
      | exact ih2 _ _
      | exact delta_Apply.mono _ _ _ _
      | exact delta_Make.mono _ _ _
      | exact delta_Size.mono _ _
      | exact knapsacklaw06_knows.mono _
      | exact knapsackref06_Apply.mono _ _ _ _
      | exact LeO.none _
      | refine LeO.ite ?_ ?_
      | refine LeO.bind ?_ (fun _ => ?_)
    · intro y0 y1 y2 y3
      unfold knapsacklaw06_DeltaBack.j1
      repeat' first
      | (with_reducible exact ih0 _ _ _)
      | (with_reducible exact ih1 _ _ _ _)
      | (with_reducible exact ih2 _ _)
      | (with_reducible exact delta_Apply.mono _ _ _ _)
      | (with_reducible exact delta_Make.mono _ _ _)
      | (with_reducible exact delta_Size.mono _ _)
      | (with_reducible exact knapsacklaw06_knows.mono _)
      | (with_reducible exact knapsackref06_Apply.mono _ _ _ _)
      | (with_reducible exact LeO.refl _)
      | (with_reducible exact LeO.none _)
      | (with_reducible refine LeO.ite ?_ ?_)
      | (with_reducible refine LeO.bind ?_ (fun _ => ?_))
      | exact ih0 _ _ _
      | exact ih1 _ _ _ _
      | exact ih2 _ _
      | exact delta_Apply.mono _ _ _ _
      | exact delta_Make.mono _ _ _
      | exact delta_Size.mono _ _
      | exact knapsacklaw06_knows.mono _
      | exact knapsackref06_Apply.mono _ _ _ _
      | exact LeO.none _
      | refine LeO.ite ?_ ?_
      | refine LeO.bind ?_ (fun _ => ?_)
    · intro y0 y1
      unfold knapsacklaw06_DeltaBack.j2
      repeat' first
      | (with_reducible exact ih0 _ _ _)
      | (with_reducible exact ih1 _ _ _ _)
      | (with_reducible exact ih2 _ _)
      | (with_reducible exact delta_Apply.mono _ _ _ _)
      | (with_reducible exact delta_Make.mono _ _ _)
      | (with_reducible exact delta_Size.mono _ _)
      | (with_reducible exact knapsacklaw06_knows.mono _)
      | (with_reducible exact knapsackref06_Apply.mono _ _ _ _)
      | (with_reducible exact LeO.refl _)
      | (with_reducible exact LeO.none _)
      | (with_reducible refine LeO.ite ?_ ?_)
      | (with_reducible refine LeO.bind ?_ (fun _ => ?_))
      | exact ih0 _ _ _
      | exact ih1 _ _ _ _
      | exact ih2 _ _
      | exact delta_Apply.mono _ _ _ _
      | exact delta_Make.mono _ _ _
      | exact delta_Size.mono _ _
      | exact knapsacklaw06_knows.mono _
      | exact knapsackref06_Apply.mono _ _ _ _
      | exact LeO.none _
      | refine LeO.ite ?_ ?_
      | refine LeO.bind ?_ (fun _ => ?_)
theorem knapsacklaw06_DeltaBack.mono : ∀ a0 a1 k, LeO (knapsacklaw06_DeltaBack.f k a0 a1) (knapsacklaw06_DeltaBack.f (k + 1) a0 a1) := by
  intro a0 a1 k
  obtain ⟨ih0, ih1, ih2⟩ := knapsacklaw06_DeltaBack.mono_l k
  unfold knapsacklaw06_DeltaBack.f
  repeat' first
      | (with_reducible exact ih0 _ _ _)
      | (with_reducible exact ih1 _ _ _ _)
      | (with_reducible exact ih2 _ _)
      | (with_reducible exact delta_Apply.mono _ _ _ _)
      | (with_reducible exact delta_Make.mono _ _ _)
      | (with_reducible exact delta_Size.mono _ _)
      | (with_reducible exact knapsacklaw06_knows.mono _)
      | (with_reducible exact knapsackref06_Apply.mono _ _ _ _)
      | (with_reducible exact LeO.refl _)
      | (with_reducible exact LeO.none _)
      | (with_reducible refine LeO.ite ?_ ?_)
      | (with_reducible refine LeO.bind ?_ (fun _ => ?_))
      | exact ih0 _ _ _
      | exact ih1 _ _ _ _
      | exact ih2 _ _
      | exact delta_Apply.mono _ _ _ _
      | exact delta_Make.mono _ _ _
      | exact delta_Size.mono _ _
      | exact knapsacklaw06_knows.mono _
      | exact knapsackref06_Apply.mono _ _ _ _
      | exact LeO.none _
      | refine LeO.ite ?_ ?_
      | refine LeO.bind ?_ (fun _ => ?_)
set_option maxHeartbeats 8000000 in
set_option maxRecDepth 100000 in
theorem knapsacklaw06_DeltaBack.calls (k : Nat) (a0 : ByteArray) (a1 : ByteArray) (r : Bool) (w : World) (h : knapsacklaw06_DeltaBack.f k a0 a1 = some r) :
    Calls Try.prog 11 #[.string a0, .string a1] w fun e w' => e = .returned (.bool r) ∧ Below w.heap.size w w' := by
  have HB := Aside0.mk (Below.refl w.heap.size w)
  have H : (if (a0.size : Int) > 1500 then (knapsacklaw06_DeltaBack.j0 k a0 a1 true) else (knapsacklaw06_DeltaBack.j0 k a0 a1 (decide ((a1.size : Int) > 1500)))) = some r := h
  clear h
  have HC3 := Aside0.mk H
  clear H
  go_enter Try.func11, Try.ntmps11
  go_upto_region 1 with (fail)
  go_cut [26] (fun v26 wc => ∃ (kq : Nat) (x26_2 : Bool), v26 = .bool x26_2 ∧ Aside0 (knapsacklaw06_DeltaBack.j0 kq a0 a1 x26_2 = some r) ∧ Aside0 (kq ≤ k) ∧ Aside0 (Below w.heap.size w wc))
  case first =>
    have H := HC3.out
    clear HC3
    by_cases c4 : (a0.size : Int) > 1500
    · rw [if_pos c4] at H
      have c4b0 : decide (1500 < (a0.size : Int)) = true := decide_eq_true c4
      have c4b1 : decide (1500 < a0.size) = true := decide_eq_true (by omega)
      clear c4
      (first | rw [c4b0] | (simp only [i64_w, i32_w]; rw [c4b0]) | skip)
      have H' := Aside0.mk H
      clear H
      go_wp2
      go_meet
      case rel => exact ⟨_, (true), (by first | rfl | (simp; done) | (simp; omega) | (simp [*]; done)), H', ⟨by first | omega | exact Nat.le_refl _⟩, ⟨by repeat (first | (with_reducible first | exact HB.out | apply below_alloc | apply pw_below_drewN | apply below_drew1) | exact HB.out)⟩⟩
    · rw [if_neg c4] at H
      have c4b0 : decide (1500 < (a0.size : Int)) = false := decide_eq_false c4
      have c4b1 : decide (1500 < a0.size) = false := decide_eq_false (by omega)
      clear c4
      (first | rw [c4b0] | (simp only [i64_w, i32_w]; rw [c4b0]) | skip)
      have H' := Aside0.mk H
      clear H
      go_wp2
      go_meet
      case rel => exact ⟨_, (decide ((a1.size : Int) > 1500)), (by first | rfl | (simp; done) | (simp; omega) | (simp [*]; done)), H', ⟨by first | omega | exact Nat.le_refl _⟩, ⟨by repeat (first | (with_reducible first | exact HB.out | apply below_alloc | apply pw_below_drewN | apply below_drew1) | exact HB.out)⟩⟩
  case rest =>
    clear HC3
    try clear c1
    try clear p2
    try clear c4
    try clear c4b0
    try clear c4b1
    obtain ⟨kq, x26_2, rfl, HA, HJ2, HB⟩ := hcut
    cases kq with
    | zero => exact absurd HA.out (by simp [knapsacklaw06_DeltaBack.j0])
    | succ kj2 =>
      have H := HA.out
      clear HA
      simp only [knapsacklaw06_DeltaBack.j0] at H
      by_cases c5 : x26_2 = true
      · subst c5
        have H1 : ((knapsacklaw06_knows.f kj2).bind fun t278 => (some t278)) = some r := by rw [if_pos rfl] at H; exact H
        clear H
        have H := H1
        clear H1
        replace H := Option.bind_eq_some_iff.mp H
        obtain ⟨t278, A60, H⟩ := H
        replace H : (some t278) = some r := H
        have A6 := Aside0.mk A60
        clear A60
        obtain rfl := Option.some.inj H
        go_wp2_with (first | ((with_reducible refine gate_callee (f := 28) rfl ?_); refine goesL_ (some 27) rfl rfl Try.func28 (by kernel_rfl) rfl #[] rfl (by (try simp only [List.map_toArray, List.map_cons, List.map_nil]); first | done | rfl | (simp only [List.length_drop, List.length_take]; rfl)) ?_; (with_reducible refine (knapsacklaw06_knows.calls kj2  t278 _ A6.out).mono ?_); rintro e w7 ⟨rfl, hb⟩; refine ⟨_, rfl, ?_⟩; have n0_ := Aside0.mk (below_step (by repeat (first | (with_reducible first | exact HB.out | apply below_alloc | apply pw_below_drewN | apply below_drew1) | exact HB.out)) hb); clear HB; have HB := n0_; clear n0_; (try clear hb); (try clear hb2); (try clear hk); (try clear hi)))
        go_ret
        exact ⟨by first | rfl | (simp [errW_none, errW_some] <;> rfl) | (simp [*, errW_none, errW_some] <;> rfl), by repeat (first | (with_reducible first | exact HB.out | apply below_alloc | apply pw_below_drewN | apply below_drew1) | exact HB.out)⟩
      · replace c5 := Bool.eq_false_iff.mpr c5
        subst c5
        have H1 : ((delta_Make.f kj2 a0 a1).bind fun t279 => ((delta_Apply.f kj2 a0 t279 (a1.size : Int)).bind fun bt280 => ((knapsackref06_Apply.f kj2 a0 t279 (a1.size : Int)).bind fun bt282 => (if bt280.1.toList = a1.toList then (if bt280.2 = 0 then (if bt282.1.toList = a1.toList then (if bt282.2 = 0 then (knapsacklaw06_DeltaBack.j1 kj2 a0 a1 t279 (decide ((t279.size : Int) > (wrap64 ((a1.size : Int) + 30))))) else (knapsacklaw06_DeltaBack.j1 kj2 a0 a1 t279 true)) else (knapsacklaw06_DeltaBack.j1 kj2 a0 a1 t279 true)) else (knapsacklaw06_DeltaBack.j1 kj2 a0 a1 t279 true)) else (knapsacklaw06_DeltaBack.j1 kj2 a0 a1 t279 true))))) = some r := by rw [if_neg (show ¬ (false = true) by decide)] at H; exact H
        clear H
        have H := H1
        clear H1
        replace H := Option.bind_eq_some_iff.mp H
        obtain ⟨t279, A80, H⟩ := H
        replace H : ((delta_Apply.f kj2 a0 t279 (a1.size : Int)).bind fun bt280 => ((knapsackref06_Apply.f kj2 a0 t279 (a1.size : Int)).bind fun bt282 => (if bt280.1.toList = a1.toList then (if bt280.2 = 0 then (if bt282.1.toList = a1.toList then (if bt282.2 = 0 then (knapsacklaw06_DeltaBack.j1 kj2 a0 a1 t279 (decide ((t279.size : Int) > (wrap64 ((a1.size : Int) + 30))))) else (knapsacklaw06_DeltaBack.j1 kj2 a0 a1 t279 true)) else (knapsacklaw06_DeltaBack.j1 kj2 a0 a1 t279 true)) else (knapsacklaw06_DeltaBack.j1 kj2 a0 a1 t279 true)) else (knapsacklaw06_DeltaBack.j1 kj2 a0 a1 t279 true)))) = some r := H
        have A8 := Aside0.mk A80
        clear A80
        replace H := Option.bind_eq_some_iff.mp H
        obtain ⟨⟨t280, t281⟩, A90, H⟩ := H
        replace H : ((knapsackref06_Apply.f kj2 a0 t279 (a1.size : Int)).bind fun bt282 => (if t280.toList = a1.toList then (if t281 = 0 then (if bt282.1.toList = a1.toList then (if bt282.2 = 0 then (knapsacklaw06_DeltaBack.j1 kj2 a0 a1 t279 (decide ((t279.size : Int) > (wrap64 ((a1.size : Int) + 30))))) else (knapsacklaw06_DeltaBack.j1 kj2 a0 a1 t279 true)) else (knapsacklaw06_DeltaBack.j1 kj2 a0 a1 t279 true)) else (knapsacklaw06_DeltaBack.j1 kj2 a0 a1 t279 true)) else (knapsacklaw06_DeltaBack.j1 kj2 a0 a1 t279 true))) = some r := H
        have A9 := Aside0.mk A90
        clear A90
        replace H := Option.bind_eq_some_iff.mp H
        obtain ⟨⟨t282, t283⟩, A100, H⟩ := H
        replace H : (if t280.toList = a1.toList then (if t281 = 0 then (if t282.toList = a1.toList then (if t283 = 0 then (knapsacklaw06_DeltaBack.j1 kj2 a0 a1 t279 (decide ((t279.size : Int) > (wrap64 ((a1.size : Int) + 30))))) else (knapsacklaw06_DeltaBack.j1 kj2 a0 a1 t279 true)) else (knapsacklaw06_DeltaBack.j1 kj2 a0 a1 t279 true)) else (knapsacklaw06_DeltaBack.j1 kj2 a0 a1 t279 true)) else (knapsacklaw06_DeltaBack.j1 kj2 a0 a1 t279 true)) = some r := H
        have A10 := Aside0.mk A100
        clear A100
        have HC11 := Aside0.mk H
        clear H
        go_upto_region 6 with (first | ((with_reducible refine gate_callee (f := 43) rfl ?_); refine goesL_ (some 30) rfl rfl Try.func43 (by kernel_rfl) rfl #[.string a0, .string a1] rfl (by (try simp only [List.map_toArray, List.map_cons, List.map_nil]); first | done | rfl | (simp only [List.length_drop, List.length_take]; rfl)) ?_; (with_reducible refine (delta_Make.calls kj2 a0 a1 t279 _ A8.out).mono ?_); rintro e w12 ⟨rfl, hb⟩; refine ⟨_, rfl, ?_⟩; have n0_ := Aside0.mk (below_step (by repeat (first | (with_reducible first | exact HB.out | apply below_alloc | apply pw_below_drewN | apply below_drew1) | exact HB.out)) hb); clear HB; have HB := n0_; clear n0_; (try clear hb); (try clear hb2); (try clear hk); (try clear hi)) | ((with_reducible refine gate_callee (f := 29) rfl ?_); refine goesL_ (some 36) rfl rfl Try.func29 (by kernel_rfl) rfl #[.string a0, .string t279, .int .i64 (a1.size : Int)] rfl (by (try simp only [List.map_toArray, List.map_cons, List.map_nil]); first | done | rfl | (simp only [List.length_drop, List.length_take]; rfl)) ?_; (with_reducible refine (delta_Apply.calls kj2 a0 t279 (a1.size : Int) t280 t281 _ A9.out).mono ?_); rintro e w13 ⟨rfl, hb⟩; refine ⟨_, rfl, ?_⟩; have n0_ := Aside0.mk (below_step (by repeat (first | (with_reducible first | exact HB.out | apply below_alloc | apply pw_below_drewN | apply below_drew1) | exact HB.out)) hb); clear HB; have HB := n0_; clear n0_; (try clear hb); (try clear hb2); (try clear hk); (try clear hi)) | ((with_reducible refine gate_callee (f := 30) rfl ?_); refine goesL_ (some 44) rfl rfl Try.func30 (by kernel_rfl) rfl #[.string a0, .string t279, .int .i64 (a1.size : Int)] rfl (by (try simp only [List.map_toArray, List.map_cons, List.map_nil]); first | done | rfl | (simp only [List.length_drop, List.length_take]; rfl)) ?_; (with_reducible refine (knapsackref06_Apply.calls kj2 a0 t279 (a1.size : Int) t282 t283 _ A10.out).mono ?_); rintro e w' ⟨rfl, ⟨nd, rfl⟩⟩; refine ⟨_, rfl, ?_⟩))
        (try simp only [Act.put, List.setIfInBounds_toArray, List.set_cons_zero, List.set_cons_succ])
        go_cut [70] (fun v70 wc => ∃ (kq : Nat) (x70_10 : Bool), v70 = .bool x70_10 ∧ Aside0 (knapsacklaw06_DeltaBack.j1 kq a0 a1 t279 x70_10 = some r) ∧ Aside0 (kq ≤ kj2) ∧ Aside0 (Below w.heap.size w wc))
        case first =>
          have H := HC11.out
          clear HC11
          by_cases c14 : t280.toList = a1.toList
          · rw [if_pos c14] at H
            have c14b0 : (t280.toList == a1.toList) = true := beq_iff_eq.mpr c14
            have c14b1 : (t280.toList != a1.toList) = false := bne_eq_false_iff_eq.mpr c14
            clear c14
            (first | rw [c14b0] | (simp only [i64_w, i32_w]; rw [c14b0]) | skip)
            by_cases c15 : t281 = 0
            · rw [if_pos c15] at H
              have c15b0 : (t281 == 0) = true := beq_iff_eq.mpr c15
              have c15b1 : (t281 != 0) = false := bne_eq_false_iff_eq.mpr c15
              clear c15
              by_cases c16 : t282.toList = a1.toList
              · rw [if_pos c16] at H
                have c16b0 : (t282.toList == a1.toList) = true := beq_iff_eq.mpr c16
                have c16b1 : (t282.toList != a1.toList) = false := bne_eq_false_iff_eq.mpr c16
                clear c16
                by_cases c17 : t283 = 0
                · rw [if_pos c17] at H
                  have c17b0 : (t283 == 0) = true := beq_iff_eq.mpr c17
                  have c17b1 : (t283 != 0) = false := bne_eq_false_iff_eq.mpr c17
                  clear c17
                  have H' := Aside0.mk H
                  clear H
                  go_wp2
                  go_meet
                  case rel => exact ⟨_, (decide ((t279.size : Int) > (wrap64 ((a1.size : Int) + 30)))), (by first | rfl | (simp; done) | (simp; omega) | (simp [*]; done)), H', ⟨by have := HJ2.out; first | omega | exact Nat.le_refl _⟩, ⟨by repeat (first | (with_reducible first | exact HB.out | apply below_alloc | apply pw_below_drewN | apply below_drew1) | exact HB.out)⟩⟩
                · rw [if_neg c17] at H
                  have c17b0 : (t283 == 0) = false := beq_eq_false_iff_ne.mpr c17
                  have c17b1 : (t283 != 0) = true := bne_iff_ne.mpr c17
                  have H' := Aside0.mk H
                  clear H
                  go_wp2
                  go_meet
                  case rel => exact ⟨_, (true), (by first | rfl | (simp; done) | (simp; omega) | (simp [*]; done)), H', ⟨by have := HJ2.out; first | omega | exact Nat.le_refl _⟩, ⟨by repeat (first | (with_reducible first | exact HB.out | apply below_alloc | apply pw_below_drewN | apply below_drew1) | exact HB.out)⟩⟩
              · rw [if_neg c16] at H
                have c16b0 : (t282.toList == a1.toList) = false := beq_eq_false_iff_ne.mpr c16
                have c16b1 : (t282.toList != a1.toList) = true := bne_iff_ne.mpr c16
                have H' := Aside0.mk H
                clear H
                go_wp2
                go_meet
                case rel => exact ⟨_, (true), (by first | rfl | (simp; done) | (simp; omega) | (simp [*]; done)), H', ⟨by have := HJ2.out; first | omega | exact Nat.le_refl _⟩, ⟨by repeat (first | (with_reducible first | exact HB.out | apply below_alloc | apply pw_below_drewN | apply below_drew1) | exact HB.out)⟩⟩
            · rw [if_neg c15] at H
              have c15b0 : (t281 == 0) = false := beq_eq_false_iff_ne.mpr c15
              have c15b1 : (t281 != 0) = true := bne_iff_ne.mpr c15
              have H' := Aside0.mk H
              clear H
              go_wp2
              go_meet
              case rel => exact ⟨_, (true), (by first | rfl | (simp; done) | (simp; omega) | (simp [*]; done)), H', ⟨by have := HJ2.out; first | omega | exact Nat.le_refl _⟩, ⟨by repeat (first | (with_reducible first | exact HB.out | apply below_alloc | apply pw_below_drewN | apply below_drew1) | exact HB.out)⟩⟩
          · rw [if_neg c14] at H
            have c14b0 : (t280.toList == a1.toList) = false := beq_eq_false_iff_ne.mpr c14
            have c14b1 : (t280.toList != a1.toList) = true := bne_iff_ne.mpr c14
            (first | rw [c14b0] | (simp only [i64_w, i32_w]; rw [c14b0]) | skip)
            have H' := Aside0.mk H
            clear H
            go_wp2
            go_meet
            case rel => exact ⟨_, (true), (by first | rfl | (simp; done) | (simp; omega) | (simp [*]; done)), H', ⟨by have := HJ2.out; first | omega | exact Nat.le_refl _⟩, ⟨by repeat (first | (with_reducible first | exact HB.out | apply below_alloc | apply pw_below_drewN | apply below_drew1) | exact HB.out)⟩⟩
        case rest =>
          clear HC11
          try clear c1
          try clear c2
          try clear p2
          try clear c3
          try clear c4
          try clear c4b0
          try clear c4b1
          try clear c5
          try clear p6
          try clear c11
          try clear c14
          try clear c14b0
          try clear c14b1
          try clear c15
          try clear c15b0
          try clear c15b1
          try clear c16
          try clear c16b0
          try clear c16b1
          try clear c17
          try clear c17b0
          try clear c17b1
          try clear p2
          obtain ⟨kq, x70_10, rfl, HA, HJ10, HB⟩ := hcut
          cases kq with
          | zero => exact absurd HA.out (by simp [knapsacklaw06_DeltaBack.j1])
          | succ kj10 =>
            have H := HA.out
            clear HA
            simp only [knapsacklaw06_DeltaBack.j1] at H
            by_cases c18 : x70_10 = true
            · subst c18
              have H1 : (some false) = some r := by rw [if_pos rfl] at H; exact H
              clear H
              have H := H1
              clear H1
              obtain rfl := Option.some.inj H
              go_wp2
              go_ret
              exact ⟨by first | rfl | (simp [errW_none, errW_some] <;> rfl) | (simp [*, errW_none, errW_some] <;> rfl), by repeat (first | (with_reducible first | exact HB.out | apply below_alloc | apply pw_below_drewN | apply below_drew1) | exact HB.out)⟩
            · replace c18 := Bool.eq_false_iff.mpr c18
              subst c18
              have H1 : ((delta_Apply.f kj10 a0 t279 (wrap64 ((a1.size : Int) - 1))).bind fun bt284 => (if a0.size + 1 ≤ 9223372036854775807 then ((delta_Apply.f kj10 (a0 ++ (⟨#[120]⟩ : ByteArray)) t279 (a1.size : Int)).bind fun bt286 => ((delta_Size.f kj10 t279).bind fun bt288 => (if a1.toList = ([] : List UInt8) then (if bt286.2 = 6 then (if bt288.1 = (a1.size : Int) then (knapsacklaw06_DeltaBack.j2 kj10 a0 (bt288.2 != 0)) else (knapsacklaw06_DeltaBack.j2 kj10 a0 true)) else (knapsacklaw06_DeltaBack.j2 kj10 a0 true)) else (if bt284.2 = 3 then (if bt286.2 = 6 then (if bt288.1 = (a1.size : Int) then (knapsacklaw06_DeltaBack.j2 kj10 a0 (bt288.2 != 0)) else (knapsacklaw06_DeltaBack.j2 kj10 a0 true)) else (knapsacklaw06_DeltaBack.j2 kj10 a0 true)) else (knapsacklaw06_DeltaBack.j2 kj10 a0 true))))) else (none))) = some r := by rw [if_neg (show ¬ (false = true) by decide)] at H; exact H
              clear H
              have H := H1
              clear H1
              replace H := Option.bind_eq_some_iff.mp H
              obtain ⟨⟨t284, t285⟩, A190, H⟩ := H
              replace H : (if a0.size + 1 ≤ 9223372036854775807 then ((delta_Apply.f kj10 (a0 ++ (⟨#[120]⟩ : ByteArray)) t279 (a1.size : Int)).bind fun bt286 => ((delta_Size.f kj10 t279).bind fun bt288 => (if a1.toList = ([] : List UInt8) then (if bt286.2 = 6 then (if bt288.1 = (a1.size : Int) then (knapsacklaw06_DeltaBack.j2 kj10 a0 (bt288.2 != 0)) else (knapsacklaw06_DeltaBack.j2 kj10 a0 true)) else (knapsacklaw06_DeltaBack.j2 kj10 a0 true)) else (if t285 = 3 then (if bt286.2 = 6 then (if bt288.1 = (a1.size : Int) then (knapsacklaw06_DeltaBack.j2 kj10 a0 (bt288.2 != 0)) else (knapsacklaw06_DeltaBack.j2 kj10 a0 true)) else (knapsacklaw06_DeltaBack.j2 kj10 a0 true)) else (knapsacklaw06_DeltaBack.j2 kj10 a0 true))))) else (none)) = some r := H
              have A19 := Aside0.mk A190
              clear A190
              by_cases c20 : a0.size + 1 ≤ 9223372036854775807
              · rw [if_pos c20] at H
                have c20b1 : decide (a0.size + 1 ≤ 9223372036854775807) = true := decide_eq_true c20
                try have c20b2 : (9223372036854775807 < a0.size + 1) = False := eq_false (Nat.not_lt.2 c20)
                clear c20
                replace H := Option.bind_eq_some_iff.mp H
                obtain ⟨⟨t286, t287⟩, A210, H⟩ := H
                replace H : ((delta_Size.f kj10 t279).bind fun bt288 => (if a1.toList = ([] : List UInt8) then (if t287 = 6 then (if bt288.1 = (a1.size : Int) then (knapsacklaw06_DeltaBack.j2 kj10 a0 (bt288.2 != 0)) else (knapsacklaw06_DeltaBack.j2 kj10 a0 true)) else (knapsacklaw06_DeltaBack.j2 kj10 a0 true)) else (if t285 = 3 then (if t287 = 6 then (if bt288.1 = (a1.size : Int) then (knapsacklaw06_DeltaBack.j2 kj10 a0 (bt288.2 != 0)) else (knapsacklaw06_DeltaBack.j2 kj10 a0 true)) else (knapsacklaw06_DeltaBack.j2 kj10 a0 true)) else (knapsacklaw06_DeltaBack.j2 kj10 a0 true)))) = some r := H
                have A21 := Aside0.mk A210
                clear A210
                replace H := Option.bind_eq_some_iff.mp H
                obtain ⟨⟨t288, t289⟩, A220, H⟩ := H
                replace H : (if a1.toList = ([] : List UInt8) then (if t287 = 6 then (if t288 = (a1.size : Int) then (knapsacklaw06_DeltaBack.j2 kj10 a0 (t289 != 0)) else (knapsacklaw06_DeltaBack.j2 kj10 a0 true)) else (knapsacklaw06_DeltaBack.j2 kj10 a0 true)) else (if t285 = 3 then (if t287 = 6 then (if t288 = (a1.size : Int) then (knapsacklaw06_DeltaBack.j2 kj10 a0 (t289 != 0)) else (knapsacklaw06_DeltaBack.j2 kj10 a0 true)) else (knapsacklaw06_DeltaBack.j2 kj10 a0 true)) else (knapsacklaw06_DeltaBack.j2 kj10 a0 true))) = some r := H
                have A22 := Aside0.mk A220
                clear A220
                have HC23 := Aside0.mk H
                clear H
                go_upto_region 11 with (first | ((with_reducible refine gate_callee (f := 29) rfl ?_); refine goesL_ (some 77) rfl rfl Try.func29 (by kernel_rfl) rfl #[.string a0, .string t279, .int .i64 (wrap64 ((a1.size : Int) - 1))] rfl (by (try simp only [List.map_toArray, List.map_cons, List.map_nil]); first | done | rfl | (simp only [List.length_drop, List.length_take]; rfl)) ?_; (with_reducible refine (delta_Apply.calls kj10 a0 t279 (wrap64 ((a1.size : Int) - 1)) t284 t285 _ A19.out).mono ?_); rintro e w24 ⟨rfl, hb⟩; refine ⟨_, rfl, ?_⟩; have n0_ := Aside0.mk (below_step (by repeat (first | (with_reducible first | exact HB.out | apply below_alloc | apply pw_below_drewN | apply below_drew1) | exact HB.out)) hb); clear HB; have HB := n0_; clear n0_; (try clear hb); (try clear hb2); (try clear hk); (try clear hi)) | ((with_reducible refine gate_callee (f := 29) rfl ?_); refine goesL_ (some 86) rfl rfl Try.func29 (by kernel_rfl) rfl #[.string (a0 ++ (⟨#[120]⟩ : ByteArray)), .string t279, .int .i64 (a1.size : Int)] rfl (by (try simp only [List.map_toArray, List.map_cons, List.map_nil]); first | done | rfl | (simp only [List.length_drop, List.length_take]; rfl)) ?_; (with_reducible refine (delta_Apply.calls kj10 (a0 ++ (⟨#[120]⟩ : ByteArray)) t279 (a1.size : Int) t286 t287 _ A21.out).mono ?_); rintro e w25 ⟨rfl, hb⟩; refine ⟨_, rfl, ?_⟩; have n0_ := Aside0.mk (below_step (by repeat (first | (with_reducible first | exact HB.out | apply below_alloc | apply pw_below_drewN | apply below_drew1) | exact HB.out)) hb); clear HB; have HB := n0_; clear n0_; (try clear hb); (try clear hb2); (try clear hk); (try clear hi)) | ((with_reducible refine gate_callee (f := 31) rfl ?_); refine goesL_ (some 91) rfl rfl Try.func31 (by kernel_rfl) rfl #[.string t279] rfl (by (try simp only [List.map_toArray, List.map_cons, List.map_nil]); first | done | rfl | (simp only [List.length_drop, List.length_take]; rfl)) ?_; (with_reducible refine (delta_Size.calls kj10 t279 t288 t289 _ A22.out).mono ?_); rintro e w26 ⟨rfl, hb⟩; refine ⟨_, rfl, ?_⟩; have n0_ := Aside0.mk (below_step (by repeat (first | (with_reducible first | exact HB.out | apply below_alloc | apply pw_below_drewN | apply below_drew1) | exact HB.out)) hb); clear HB; have HB := n0_; clear n0_; (try clear hb); (try clear hb2); (try clear hk); (try clear hi)))
                (try simp only [Act.put, List.setIfInBounds_toArray, List.set_cons_zero, List.set_cons_succ])
                go_cut [113] (fun v113 wc => ∃ (kq : Nat) (x113_22 : Bool), v113 = .bool x113_22 ∧ Aside0 (knapsacklaw06_DeltaBack.j2 kq a0 x113_22 = some r) ∧ Aside0 (kq ≤ kj10) ∧ Aside0 (Below w.heap.size w wc))
                case first =>
                  have H := HC23.out
                  clear HC23
                  by_cases c27 : a1.toList = ([] : List UInt8)
                  · rw [if_pos c27] at H
                    have c27b0 : (a1.toList == ([] : List UInt8)) = true := beq_iff_eq.mpr c27
                    have c27b1 : (a1.toList != ([] : List UInt8)) = false := bne_eq_false_iff_eq.mpr c27
                    clear c27
                    (first | rw [c27b0] | (simp only [i64_w, i32_w]; rw [c27b0]) | skip)
                    by_cases c28 : t287 = 6
                    · rw [if_pos c28] at H
                      have c28b0 : (t287 == 6) = true := beq_iff_eq.mpr c28
                      have c28b1 : (t287 != 6) = false := bne_eq_false_iff_eq.mpr c28
                      clear c28
                      by_cases c29 : t288 = (a1.size : Int)
                      · rw [if_pos c29] at H
                        have c29b0 : (t288 == (a1.size : Int)) = true := beq_iff_eq.mpr c29
                        have c29b1 : (t288 != (a1.size : Int)) = false := bne_eq_false_iff_eq.mpr c29
                        clear c29
                        have H' := Aside0.mk H
                        clear H
                        go_wp2
                        go_meet
                        case rel => exact ⟨_, ((t289 != 0)), (by first | rfl | (simp; done) | (simp; omega) | (simp [*]; done)), H', ⟨by have := HJ2.out; have := HJ10.out; first | omega | exact Nat.le_refl _⟩, ⟨by repeat (first | (with_reducible first | exact HB.out | apply below_alloc | apply pw_below_drewN | apply below_drew1) | exact HB.out)⟩⟩
                      · rw [if_neg c29] at H
                        have c29b0 : (t288 == (a1.size : Int)) = false := beq_eq_false_iff_ne.mpr c29
                        have c29b1 : (t288 != (a1.size : Int)) = true := bne_iff_ne.mpr c29
                        have H' := Aside0.mk H
                        clear H
                        go_wp2
                        go_meet
                        case rel => exact ⟨_, (true), (by first | rfl | (simp; done) | (simp; omega) | (simp [*]; done)), H', ⟨by have := HJ2.out; have := HJ10.out; first | omega | exact Nat.le_refl _⟩, ⟨by repeat (first | (with_reducible first | exact HB.out | apply below_alloc | apply pw_below_drewN | apply below_drew1) | exact HB.out)⟩⟩
                    · rw [if_neg c28] at H
                      have c28b0 : (t287 == 6) = false := beq_eq_false_iff_ne.mpr c28
                      have c28b1 : (t287 != 6) = true := bne_iff_ne.mpr c28
                      have H' := Aside0.mk H
                      clear H
                      go_wp2
                      go_meet
                      case rel => exact ⟨_, (true), (by first | rfl | (simp; done) | (simp; omega) | (simp [*]; done)), H', ⟨by have := HJ2.out; have := HJ10.out; first | omega | exact Nat.le_refl _⟩, ⟨by repeat (first | (with_reducible first | exact HB.out | apply below_alloc | apply pw_below_drewN | apply below_drew1) | exact HB.out)⟩⟩
                  · rw [if_neg c27] at H
                    have c27b0 : (a1.toList == ([] : List UInt8)) = false := beq_eq_false_iff_ne.mpr c27
                    have c27b1 : (a1.toList != ([] : List UInt8)) = true := bne_iff_ne.mpr c27
                    (first | rw [c27b0] | (simp only [i64_w, i32_w]; rw [c27b0]) | skip)
                    by_cases c30 : t285 = 3
                    · rw [if_pos c30] at H
                      have c30b0 : (t285 == 3) = true := beq_iff_eq.mpr c30
                      have c30b1 : (t285 != 3) = false := bne_eq_false_iff_eq.mpr c30
                      clear c30
                      by_cases c31 : t287 = 6
                      · rw [if_pos c31] at H
                        have c31b0 : (t287 == 6) = true := beq_iff_eq.mpr c31
                        have c31b1 : (t287 != 6) = false := bne_eq_false_iff_eq.mpr c31
                        clear c31
                        by_cases c32 : t288 = (a1.size : Int)
                        · rw [if_pos c32] at H
                          have c32b0 : (t288 == (a1.size : Int)) = true := beq_iff_eq.mpr c32
                          have c32b1 : (t288 != (a1.size : Int)) = false := bne_eq_false_iff_eq.mpr c32
                          clear c32
                          have H' := Aside0.mk H
                          clear H
                          go_wp2
                          go_meet
                          case rel => exact ⟨_, ((t289 != 0)), (by first | rfl | (simp; done) | (simp; omega) | (simp [*]; done)), H', ⟨by have := HJ2.out; have := HJ10.out; first | omega | exact Nat.le_refl _⟩, ⟨by repeat (first | (with_reducible first | exact HB.out | apply below_alloc | apply pw_below_drewN | apply below_drew1) | exact HB.out)⟩⟩
                        · rw [if_neg c32] at H
                          have c32b0 : (t288 == (a1.size : Int)) = false := beq_eq_false_iff_ne.mpr c32
                          have c32b1 : (t288 != (a1.size : Int)) = true := bne_iff_ne.mpr c32
                          have H' := Aside0.mk H
                          clear H
                          go_wp2
                          go_meet
                          case rel => exact ⟨_, (true), (by first | rfl | (simp; done) | (simp; omega) | (simp [*]; done)), H', ⟨by have := HJ2.out; have := HJ10.out; first | omega | exact Nat.le_refl _⟩, ⟨by repeat (first | (with_reducible first | exact HB.out | apply below_alloc | apply pw_below_drewN | apply below_drew1) | exact HB.out)⟩⟩
                      · rw [if_neg c31] at H
                        have c31b0 : (t287 == 6) = false := beq_eq_false_iff_ne.mpr c31
                        have c31b1 : (t287 != 6) = true := bne_iff_ne.mpr c31
                        have H' := Aside0.mk H
                        clear H
                        go_wp2
                        go_meet
                        case rel => exact ⟨_, (true), (by first | rfl | (simp; done) | (simp; omega) | (simp [*]; done)), H', ⟨by have := HJ2.out; have := HJ10.out; first | omega | exact Nat.le_refl _⟩, ⟨by repeat (first | (with_reducible first | exact HB.out | apply below_alloc | apply pw_below_drewN | apply below_drew1) | exact HB.out)⟩⟩
                    · rw [if_neg c30] at H
                      have c30b0 : (t285 == 3) = false := beq_eq_false_iff_ne.mpr c30
                      have c30b1 : (t285 != 3) = true := bne_iff_ne.mpr c30
                      have H' := Aside0.mk H
                      clear H
                      go_wp2
                      go_meet
                      case rel => exact ⟨_, (true), (by first | rfl | (simp; done) | (simp; omega) | (simp [*]; done)), H', ⟨by have := HJ2.out; have := HJ10.out; first | omega | exact Nat.le_refl _⟩, ⟨by repeat (first | (with_reducible first | exact HB.out | apply below_alloc | apply pw_below_drewN | apply below_drew1) | exact HB.out)⟩⟩
                case rest =>
                  clear HC23
                  try clear c1
                  try clear c2
                  try clear p2
                  try clear c3
                  try clear c4
                  try clear c4b0
                  try clear c4b1
                  try clear c5
                  try clear p6
                  try clear c11
                  try clear c14
                  try clear c14b0
                  try clear c14b1
                  try clear c15
                  try clear c15b0
                  try clear c15b1
                  try clear c16
                  try clear c16b0
                  try clear c16b1
                  try clear c17
                  try clear c17b0
                  try clear c17b1
                  try clear c18
                  try clear c20
                  try clear c20b1
                  try clear c20b2
                  try clear c27
                  try clear c27b0
                  try clear c27b1
                  try clear c28
                  try clear c28b0
                  try clear c28b1
                  try clear c29
                  try clear c29b0
                  try clear c29b1
                  try clear c30
                  try clear c30b0
                  try clear c30b1
                  try clear c31
                  try clear c31b0
                  try clear c31b1
                  try clear c32
                  try clear c32b0
                  try clear c32b1
                  try clear p2
                  try clear p6
                  obtain ⟨kq, x113_22, rfl, HA, HJ22, HB⟩ := hcut
                  cases kq with
                  | zero => exact absurd HA.out (by simp [knapsacklaw06_DeltaBack.j2])
                  | succ kj22 =>
                    have H := HA.out
                    clear HA
                    simp only [knapsacklaw06_DeltaBack.j2] at H
                    by_cases c33 : x113_22 = true
                    · subst c33
                      have H1 : (some false) = some r := by rw [if_pos rfl] at H; exact H
                      clear H
                      have H := H1
                      clear H1
                      obtain rfl := Option.some.inj H
                      go_wp2
                      go_ret
                      exact ⟨by first | rfl | (simp [errW_none, errW_some] <;> rfl) | (simp [*, errW_none, errW_some] <;> rfl), by repeat (first | (with_reducible first | exact HB.out | apply below_alloc | apply pw_below_drewN | apply below_drew1) | exact HB.out)⟩
                    · replace c33 := Bool.eq_false_iff.mpr c33
                      subst c33
                      have H1 : ((delta_Make.f kj22 a0 a0).bind fun t290 => ((delta_Apply.f kj22 a0 t290 (a0.size : Int)).bind fun bt291 => ((knapsacklaw06_knows.f kj22).bind fun t293 => (if t293 = true then (if (t290.size : Int) ≤ 40 then (if bt291.1.toList = a0.toList then (some (bt291.2 == 0)) else (some false)) else (some false)) else (some false))))) = some r := by rw [if_neg (show ¬ (false = true) by decide)] at H; exact H
                      clear H
                      have H := H1
                      clear H1
                      replace H := Option.bind_eq_some_iff.mp H
                      obtain ⟨t290, A340, H⟩ := H
                      replace H : ((delta_Apply.f kj22 a0 t290 (a0.size : Int)).bind fun bt291 => ((knapsacklaw06_knows.f kj22).bind fun t293 => (if t293 = true then (if (t290.size : Int) ≤ 40 then (if bt291.1.toList = a0.toList then (some (bt291.2 == 0)) else (some false)) else (some false)) else (some false)))) = some r := H
                      have A34 := Aside0.mk A340
                      clear A340
                      replace H := Option.bind_eq_some_iff.mp H
                      obtain ⟨⟨t291, t292⟩, A350, H⟩ := H
                      replace H : ((knapsacklaw06_knows.f kj22).bind fun t293 => (if t293 = true then (if (t290.size : Int) ≤ 40 then (if t291.toList = a0.toList then (some (t292 == 0)) else (some false)) else (some false)) else (some false))) = some r := H
                      have A35 := Aside0.mk A350
                      clear A350
                      replace H := Option.bind_eq_some_iff.mp H
                      obtain ⟨t293, A360, H⟩ := H
                      replace H : (if t293 = true then (if (t290.size : Int) ≤ 40 then (if t291.toList = a0.toList then (some (t292 == 0)) else (some false)) else (some false)) else (some false)) = some r := H
                      have A36 := Aside0.mk A360
                      clear A360
                      by_cases c37 : t293 = true
                      · subst c37
                        have H1 : (if (t290.size : Int) ≤ 40 then (if t291.toList = a0.toList then (some (t292 == 0)) else (some false)) else (some false)) = some r := by rw [if_pos rfl] at H; exact H
                        clear H
                        have H := H1
                        clear H1
                        by_cases c38 : (t290.size : Int) ≤ 40
                        · rw [if_pos c38] at H
                          have c38b0 : decide ((t290.size : Int) ≤ 40) = true := decide_eq_true c38
                          have c38b1 : decide (t290.size ≤ 40) = true := decide_eq_true (by omega)
                          clear c38
                          by_cases c39 : t291.toList = a0.toList
                          · rw [if_pos c39] at H
                            have c39b0 : (t291.toList == a0.toList) = true := beq_iff_eq.mpr c39
                            have c39b1 : (t291.toList != a0.toList) = false := bne_eq_false_iff_eq.mpr c39
                            clear c39
                            obtain rfl := Option.some.inj H
                            go_wp2_with (first | ((with_reducible refine gate_callee (f := 43) rfl ?_); refine goesL_ (some 116) rfl rfl Try.func43 (by kernel_rfl) rfl #[.string a0, .string a0] rfl (by (try simp only [List.map_toArray, List.map_cons, List.map_nil]); first | done | rfl | (simp only [List.length_drop, List.length_take]; rfl)) ?_; (with_reducible refine (delta_Make.calls kj22 a0 a0 t290 _ A34.out).mono ?_); rintro e w40 ⟨rfl, hb⟩; refine ⟨_, rfl, ?_⟩; have n0_ := Aside0.mk (below_step (by repeat (first | (with_reducible first | exact HB.out | apply below_alloc | apply pw_below_drewN | apply below_drew1) | exact HB.out)) hb); clear HB; have HB := n0_; clear n0_; (try clear hb); (try clear hb2); (try clear hk); (try clear hi)) | ((with_reducible refine gate_callee (f := 29) rfl ?_); refine goesL_ (some 122) rfl rfl Try.func29 (by kernel_rfl) rfl #[.string a0, .string t290, .int .i64 (a0.size : Int)] rfl (by (try simp only [List.map_toArray, List.map_cons, List.map_nil]); first | done | rfl | (simp only [List.length_drop, List.length_take]; rfl)) ?_; (with_reducible refine (delta_Apply.calls kj22 a0 t290 (a0.size : Int) t291 t292 _ A35.out).mono ?_); rintro e w41 ⟨rfl, hb⟩; refine ⟨_, rfl, ?_⟩; have n0_ := Aside0.mk (below_step (by repeat (first | (with_reducible first | exact HB.out | apply below_alloc | apply pw_below_drewN | apply below_drew1) | exact HB.out)) hb); clear HB; have HB := n0_; clear n0_; (try clear hb); (try clear hb2); (try clear hk); (try clear hi)) | ((with_reducible refine gate_callee (f := 28) rfl ?_); refine goesL_ (some 125) rfl rfl Try.func28 (by kernel_rfl) rfl #[] rfl (by (try simp only [List.map_toArray, List.map_cons, List.map_nil]); first | done | rfl | (simp only [List.length_drop, List.length_take]; rfl)) ?_; (with_reducible refine (knapsacklaw06_knows.calls kj22  true _ A36.out).mono ?_); rintro e w42 ⟨rfl, hb⟩; refine ⟨_, rfl, ?_⟩; have n0_ := Aside0.mk (below_step (by repeat (first | (with_reducible first | exact HB.out | apply below_alloc | apply pw_below_drewN | apply below_drew1) | exact HB.out)) hb); clear HB; have HB := n0_; clear n0_; (try clear hb); (try clear hb2); (try clear hk); (try clear hi)))
                            go_ret
                            exact ⟨by first | rfl | (simp [errW_none, errW_some] <;> rfl) | (simp [*, errW_none, errW_some] <;> rfl), by repeat (first | (with_reducible first | exact HB.out | apply below_alloc | apply pw_below_drewN | apply below_drew1) | exact HB.out)⟩
                          · rw [if_neg c39] at H
                            have c39b0 : (t291.toList == a0.toList) = false := beq_eq_false_iff_ne.mpr c39
                            have c39b1 : (t291.toList != a0.toList) = true := bne_iff_ne.mpr c39
                            obtain rfl := Option.some.inj H
                            go_wp2_with (first | ((with_reducible refine gate_callee (f := 43) rfl ?_); refine goesL_ (some 116) rfl rfl Try.func43 (by kernel_rfl) rfl #[.string a0, .string a0] rfl (by (try simp only [List.map_toArray, List.map_cons, List.map_nil]); first | done | rfl | (simp only [List.length_drop, List.length_take]; rfl)) ?_; (with_reducible refine (delta_Make.calls kj22 a0 a0 t290 _ A34.out).mono ?_); rintro e w43 ⟨rfl, hb⟩; refine ⟨_, rfl, ?_⟩; have n0_ := Aside0.mk (below_step (by repeat (first | (with_reducible first | exact HB.out | apply below_alloc | apply pw_below_drewN | apply below_drew1) | exact HB.out)) hb); clear HB; have HB := n0_; clear n0_; (try clear hb); (try clear hb2); (try clear hk); (try clear hi)) | ((with_reducible refine gate_callee (f := 29) rfl ?_); refine goesL_ (some 122) rfl rfl Try.func29 (by kernel_rfl) rfl #[.string a0, .string t290, .int .i64 (a0.size : Int)] rfl (by (try simp only [List.map_toArray, List.map_cons, List.map_nil]); first | done | rfl | (simp only [List.length_drop, List.length_take]; rfl)) ?_; (with_reducible refine (delta_Apply.calls kj22 a0 t290 (a0.size : Int) t291 t292 _ A35.out).mono ?_); rintro e w44 ⟨rfl, hb⟩; refine ⟨_, rfl, ?_⟩; have n0_ := Aside0.mk (below_step (by repeat (first | (with_reducible first | exact HB.out | apply below_alloc | apply pw_below_drewN | apply below_drew1) | exact HB.out)) hb); clear HB; have HB := n0_; clear n0_; (try clear hb); (try clear hb2); (try clear hk); (try clear hi)) | ((with_reducible refine gate_callee (f := 28) rfl ?_); refine goesL_ (some 125) rfl rfl Try.func28 (by kernel_rfl) rfl #[] rfl (by (try simp only [List.map_toArray, List.map_cons, List.map_nil]); first | done | rfl | (simp only [List.length_drop, List.length_take]; rfl)) ?_; (with_reducible refine (knapsacklaw06_knows.calls kj22  true _ A36.out).mono ?_); rintro e w45 ⟨rfl, hb⟩; refine ⟨_, rfl, ?_⟩; have n0_ := Aside0.mk (below_step (by repeat (first | (with_reducible first | exact HB.out | apply below_alloc | apply pw_below_drewN | apply below_drew1) | exact HB.out)) hb); clear HB; have HB := n0_; clear n0_; (try clear hb); (try clear hb2); (try clear hk); (try clear hi)))
                            go_ret
                            exact ⟨by first | rfl | (simp [errW_none, errW_some] <;> rfl) | (simp [*, errW_none, errW_some] <;> rfl), by repeat (first | (with_reducible first | exact HB.out | apply below_alloc | apply pw_below_drewN | apply below_drew1) | exact HB.out)⟩
                        · rw [if_neg c38] at H
                          have c38b0 : decide ((t290.size : Int) ≤ 40) = false := decide_eq_false c38
                          have c38b1 : decide (t290.size ≤ 40) = false := decide_eq_false (by omega)
                          clear c38
                          obtain rfl := Option.some.inj H
                          go_wp2_with (first | ((with_reducible refine gate_callee (f := 43) rfl ?_); refine goesL_ (some 116) rfl rfl Try.func43 (by kernel_rfl) rfl #[.string a0, .string a0] rfl (by (try simp only [List.map_toArray, List.map_cons, List.map_nil]); first | done | rfl | (simp only [List.length_drop, List.length_take]; rfl)) ?_; (with_reducible refine (delta_Make.calls kj22 a0 a0 t290 _ A34.out).mono ?_); rintro e w46 ⟨rfl, hb⟩; refine ⟨_, rfl, ?_⟩; have n0_ := Aside0.mk (below_step (by repeat (first | (with_reducible first | exact HB.out | apply below_alloc | apply pw_below_drewN | apply below_drew1) | exact HB.out)) hb); clear HB; have HB := n0_; clear n0_; (try clear hb); (try clear hb2); (try clear hk); (try clear hi)) | ((with_reducible refine gate_callee (f := 29) rfl ?_); refine goesL_ (some 122) rfl rfl Try.func29 (by kernel_rfl) rfl #[.string a0, .string t290, .int .i64 (a0.size : Int)] rfl (by (try simp only [List.map_toArray, List.map_cons, List.map_nil]); first | done | rfl | (simp only [List.length_drop, List.length_take]; rfl)) ?_; (with_reducible refine (delta_Apply.calls kj22 a0 t290 (a0.size : Int) t291 t292 _ A35.out).mono ?_); rintro e w47 ⟨rfl, hb⟩; refine ⟨_, rfl, ?_⟩; have n0_ := Aside0.mk (below_step (by repeat (first | (with_reducible first | exact HB.out | apply below_alloc | apply pw_below_drewN | apply below_drew1) | exact HB.out)) hb); clear HB; have HB := n0_; clear n0_; (try clear hb); (try clear hb2); (try clear hk); (try clear hi)) | ((with_reducible refine gate_callee (f := 28) rfl ?_); refine goesL_ (some 125) rfl rfl Try.func28 (by kernel_rfl) rfl #[] rfl (by (try simp only [List.map_toArray, List.map_cons, List.map_nil]); first | done | rfl | (simp only [List.length_drop, List.length_take]; rfl)) ?_; (with_reducible refine (knapsacklaw06_knows.calls kj22  true _ A36.out).mono ?_); rintro e w48 ⟨rfl, hb⟩; refine ⟨_, rfl, ?_⟩; have n0_ := Aside0.mk (below_step (by repeat (first | (with_reducible first | exact HB.out | apply below_alloc | apply pw_below_drewN | apply below_drew1) | exact HB.out)) hb); clear HB; have HB := n0_; clear n0_; (try clear hb); (try clear hb2); (try clear hk); (try clear hi)))
                          go_ret
                          exact ⟨by first | rfl | (simp [errW_none, errW_some] <;> rfl) | (simp [*, errW_none, errW_some] <;> rfl), by repeat (first | (with_reducible first | exact HB.out | apply below_alloc | apply pw_below_drewN | apply below_drew1) | exact HB.out)⟩
                      · replace c37 := Bool.eq_false_iff.mpr c37
                        subst c37
                        have H1 : (some false) = some r := by rw [if_neg (show ¬ (false = true) by decide)] at H; exact H
                        clear H
                        have H := H1
                        clear H1
                        obtain rfl := Option.some.inj H
                        go_wp2_with (first | ((with_reducible refine gate_callee (f := 43) rfl ?_); refine goesL_ (some 116) rfl rfl Try.func43 (by kernel_rfl) rfl #[.string a0, .string a0] rfl (by (try simp only [List.map_toArray, List.map_cons, List.map_nil]); first | done | rfl | (simp only [List.length_drop, List.length_take]; rfl)) ?_; (with_reducible refine (delta_Make.calls kj22 a0 a0 t290 _ A34.out).mono ?_); rintro e w49 ⟨rfl, hb⟩; refine ⟨_, rfl, ?_⟩; have n0_ := Aside0.mk (below_step (by repeat (first | (with_reducible first | exact HB.out | apply below_alloc | apply pw_below_drewN | apply below_drew1) | exact HB.out)) hb); clear HB; have HB := n0_; clear n0_; (try clear hb); (try clear hb2); (try clear hk); (try clear hi)) | ((with_reducible refine gate_callee (f := 29) rfl ?_); refine goesL_ (some 122) rfl rfl Try.func29 (by kernel_rfl) rfl #[.string a0, .string t290, .int .i64 (a0.size : Int)] rfl (by (try simp only [List.map_toArray, List.map_cons, List.map_nil]); first | done | rfl | (simp only [List.length_drop, List.length_take]; rfl)) ?_; (with_reducible refine (delta_Apply.calls kj22 a0 t290 (a0.size : Int) t291 t292 _ A35.out).mono ?_); rintro e w50 ⟨rfl, hb⟩; refine ⟨_, rfl, ?_⟩; have n0_ := Aside0.mk (below_step (by repeat (first | (with_reducible first | exact HB.out | apply below_alloc | apply pw_below_drewN | apply below_drew1) | exact HB.out)) hb); clear HB; have HB := n0_; clear n0_; (try clear hb); (try clear hb2); (try clear hk); (try clear hi)) | ((with_reducible refine gate_callee (f := 28) rfl ?_); refine goesL_ (some 125) rfl rfl Try.func28 (by kernel_rfl) rfl #[] rfl (by (try simp only [List.map_toArray, List.map_cons, List.map_nil]); first | done | rfl | (simp only [List.length_drop, List.length_take]; rfl)) ?_; (with_reducible refine (knapsacklaw06_knows.calls kj22  false _ A36.out).mono ?_); rintro e w51 ⟨rfl, hb⟩; refine ⟨_, rfl, ?_⟩; have n0_ := Aside0.mk (below_step (by repeat (first | (with_reducible first | exact HB.out | apply below_alloc | apply pw_below_drewN | apply below_drew1) | exact HB.out)) hb); clear HB; have HB := n0_; clear n0_; (try clear hb); (try clear hb2); (try clear hk); (try clear hi)))
                        go_ret
                        exact ⟨by first | rfl | (simp [errW_none, errW_some] <;> rfl) | (simp [*, errW_none, errW_some] <;> rfl), by repeat (first | (with_reducible first | exact HB.out | apply below_alloc | apply pw_below_drewN | apply below_drew1) | exact HB.out)⟩
              · rw [if_neg c20] at H
                exact absurd H (by simp)

/-- THE ONE PURE STATEMENT of knapsacklaw06_DeltaBack: yours. -/
def knapsacklaw06_DeltaBack.Pure : Prop := ∀ (a0 : ByteArray) (a1 : ByteArray), a0.size ≤ 140737488351232 → a1.size ≤ 140737488351232 → ∃ k, knapsacklaw06_DeltaBack.f k a0 a1 = some true
theorem knapsacklaw06_DeltaBack.walk (P : knapsacklaw06_DeltaBack.Pure) (a0 : ByteArray) (a1 : ByteArray) (w : World) (w0 : a0.size ≤ 140737488351232) (w1 : a1.size ≤ 140737488351232) :
    Calls Try.prog 11 #[.string a0, .string a1] w fun e w' => e = .returned (.bool true) ∧ Below w.heap.size w w' := by
  obtain ⟨k, h⟩ := P a0 a1 w0 w1
  refine (knapsacklaw06_DeltaBack.calls k a0 a1 true w h).mono ?_
  rintro e w' ⟨rfl, hd⟩
  exact ⟨rfl, hd⟩

end Go.Proofs.Ytnmnplbjhejejaa.PA
