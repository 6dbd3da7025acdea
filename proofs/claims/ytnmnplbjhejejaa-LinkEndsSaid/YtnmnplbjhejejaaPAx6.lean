-- Written by a turned copy of the printer (wip/patchprint.py of this repo), with contracts of this session beside; Lean checks it.
import Derived.Test.YtnmnplbjhejejaaPAx0
import Derived.Test.YtnmnplbjhejejaaPAx5
namespace Go.Proofs.Ytnmnplbjhejejaa.PA
open Go.RowKit Go.Proofs.YtnmnplbjhejejaaW.PrintWords Go.Proofs.YtnmnplbjhejejaaW.PrintLast Go.Proofs.YtnmnplbjhejejaaW.PrintMore
attribute [local go_sem] max2_int min2_int max_two min_two max_three min_three max_four min_four   -- for this text's walks alone
set_option linter.unusedVariables false
set_option linter.unusedSimpArgs false

/-! ### knapsackref01_Get: function 24 -/
mutual
def knapsackref01_Get.j1 : Nat → ByteArray → Int → Option (Int × Int)
  | 0, _, _ => none
  | k + 1, x0, x4 => if x4 ≥ (x0.size : Int) then (knapsackref01_Get.j2 k x0 x4 true) else (knapsackref01_Get.j2 k x0 x4 (decide (x4 ≥ 10)))
def knapsackref01_Get.j2 : Nat → ByteArray → Int → Bool → Option (Int × Int)
  | 0, _, _, _ => none
  | k + 1, x0, x4, x30 => if x30 = true then (some (0, 0)) else (if x4 = 9 then (if 9 < (x0.size : Int) then (if (bt x0 9) > 1 then (knapsackref01_Get.j3 k x0 x4 true) else (if x4 > 0 then (if 0 ≤ x4 then (if x4 < (x0.size : Int) then (knapsackref01_Get.j3 k x0 x4 ((bt x0 x4) == 0)) else (none)) else (none)) else (knapsackref01_Get.j3 k x0 x4 false))) else (none)) else (if x4 > 0 then (if 0 ≤ x4 then (if x4 < (x0.size : Int) then (knapsackref01_Get.j3 k x0 x4 ((bt x0 x4) == 0)) else (none)) else (none)) else (knapsackref01_Get.j3 k x0 x4 false)))
def knapsackref01_Get.j3 : Nat → ByteArray → Int → Bool → Option (Int × Int)
  | 0, _, _, _ => none
  | k + 1, x0, x4, x47 => if x47 = true then (some (0, 0)) else (knapsackref01_Get.l1 k x0 x4 0 x4)
def knapsackref01_Get.l1 : Nat → ByteArray → Int → Int → Int → Option (Int × Int)
  | 0, _, _, _, _ => none
  | k + 1, x0, x4, x5, x6 => if x6 ≥ 0 then (if 0 ≤ x6 then (if x6 < (x0.size : Int) then (knapsackref01_Get.l1 k x0 x4 (IntKind.u64.wrap ((IntKind.u64.wrap (128 * x5)) + (IntKind.u64.wrap (Int.tmod (bt x0 x6) 128)))) (wrap64 (x6 - 1))) else (none)) else (none)) else (some (x5, wrap64 (x4 + 1)))
def knapsackref01_Get.l0 : Nat → ByteArray → Int → Option (Int × Int)
  | 0, _, _ => none
  | k + 1, x0, x4 => if x4 < (x0.size : Int) then (if x4 < 10 then (if 0 ≤ x4 then (if (bt x0 x4) ≥ 128 then (knapsackref01_Get.l0 k x0 (wrap64 (x4 + 1))) else (knapsackref01_Get.j1 k x0 x4)) else (none)) else (knapsackref01_Get.j1 k x0 x4)) else (knapsackref01_Get.j1 k x0 x4)
end
def knapsackref01_Get.f (k : Nat) (a0 : ByteArray) : Option (Int × Int) := knapsackref01_Get.l0 k a0 0
theorem knapsackref01_Get.mono_l : ∀ k, (∀ y0 y1, LeO (knapsackref01_Get.j1 k y0 y1) (knapsackref01_Get.j1 (k + 1) y0 y1)) ∧ (∀ y0 y1 y2, LeO (knapsackref01_Get.j2 k y0 y1 y2) (knapsackref01_Get.j2 (k + 1) y0 y1 y2)) ∧ (∀ y0 y1 y2, LeO (knapsackref01_Get.j3 k y0 y1 y2) (knapsackref01_Get.j3 (k + 1) y0 y1 y2)) ∧ (∀ y0 y1 y2 y3, LeO (knapsackref01_Get.l1 k y0 y1 y2 y3) (knapsackref01_Get.l1 (k + 1) y0 y1 y2 y3)) ∧ (∀ y0 y1, LeO (knapsackref01_Get.l0 k y0 y1) (knapsackref01_Get.l0 (k + 1) y0 y1))
  | 0 => ⟨fun _ _ r h => by simp [knapsackref01_Get.j1] at h, fun _ _ _ r h => by simp [knapsackref01_Get.j2] at h, fun _ _ _ r h => by simp [knapsackref01_Get.j3] at h, fun _ _ _ _ r h => by simp [knapsackref01_Get.l1] at h, fun _ _ r h => by simp [knapsackref01_Get.l0] at h⟩
  | k + 1 => by
    obtain ⟨ih0, ih1, ih2, ih3, ih4⟩ := knapsackref01_Get.mono_l k
    refine ⟨?_, ?_, ?_, ?_, ?_⟩
    · intro y0 y1
      unfold knapsackref01_Get.j1
      repeat' first
      | (with_reducible exact ih0 _ _)
      | (with_reducible exact ih1 _ _ _)
      | (with_reducible exact ih2 _ _ _)
      | (with_reducible exact ih3 _ _ _ _)
      | (with_reducible exact ih4 _ _)
      | (with_reducible exact LeO.refl _)
      | (with_reducible exact LeO.none _)
      | (with_reducible refine LeO.ite ?_ ?_)
      | (with_reducible refine LeO.bind ?_ (fun _ => ?_))
      | exact ih0 _ _
      | exact ih1 _ _ _
      | exact ih2 _ _ _
      | exact ih3 _ _ _ _
      | exact ih4 _ _
      | exact LeO.none _
      | refine LeO.ite ?_ ?_
      | refine LeO.bind ?_ (fun _ => ?_)
    · intro y0 y1 y2
      unfold knapsackref01_Get.j2
      repeat' first
      | (with_reducible exact ih0 _ _)
      | (with_reducible exact ih1 _ _ _)
      | (with_reducible exact ih2 _ _ _)
      | (with_reducible exact ih3 _ _ _ _)
      | (with_reducible exact ih4 _ _)
      | (with_reducible exact LeO.refl _)
      | (with_reducible exact LeO.none _)
      | (with_reducible refine LeO.ite ?_ ?_)
      | (with_reducible refine LeO.bind ?_ (fun _ => ?_))
      | exact ih0 _ _
      | exact ih1 _ _ _
      | exact ih2 _ _ _
      | exact ih3 _ _ _ _
      | exact ih4 _ _
      | exact LeO.none _
      | refine LeO.ite ?_ ?_
      | refine LeO.bind ?_ (fun _ => ?_)
    · intro y0 y1 y2
      unfold knapsackref01_Get.j3
      repeat' first
      | (with_reducible exact ih0 _ _)
      | (with_reducible exact ih1 _ _ _)
      | (with_reducible exact ih2 _ _ _)
      | (with_reducible exact ih3 _ _ _ _)
      | (with_reducible exact ih4 _ _)
      | (with_reducible exact LeO.refl _)
      | (with_reducible exact LeO.none _)
      | (with_reducible refine LeO.ite ?_ ?_)
      | (with_reducible refine LeO.bind ?_ (fun _ => ?_))
      | exact ih0 _ _
      | exact ih1 _ _ _
      | exact ih2 _ _ _
      | exact ih3 _ _ _ _
      | exact ih4 _ _
      | exact LeO.none _
      | refine LeO.ite ?_ ?_
      | refine LeO.bind ?_ (fun _ => ?_)
    · intro y0 y1 y2 y3
      unfold knapsackref01_Get.l1
      repeat' first
      | (with_reducible exact ih0 _ _)
      | (with_reducible exact ih1 _ _ _)
      | (with_reducible exact ih2 _ _ _)
      | (with_reducible exact ih3 _ _ _ _)
      | (with_reducible exact ih4 _ _)
      | (with_reducible exact LeO.refl _)
      | (with_reducible exact LeO.none _)
      | (with_reducible refine LeO.ite ?_ ?_)
      | (with_reducible refine LeO.bind ?_ (fun _ => ?_))
      | exact ih0 _ _
      | exact ih1 _ _ _
      | exact ih2 _ _ _
      | exact ih3 _ _ _ _
      | exact ih4 _ _
      | exact LeO.none _
      | refine LeO.ite ?_ ?_
      | refine LeO.bind ?_ (fun _ => ?_)
    · intro y0 y1
      unfold knapsackref01_Get.l0
      repeat' first
      | (with_reducible exact ih0 _ _)
      | (with_reducible exact ih1 _ _ _)
      | (with_reducible exact ih2 _ _ _)
      | (with_reducible exact ih3 _ _ _ _)
      | (with_reducible exact ih4 _ _)
      | (with_reducible exact LeO.refl _)
      | (with_reducible exact LeO.none _)
      | (with_reducible refine LeO.ite ?_ ?_)
      | (with_reducible refine LeO.bind ?_ (fun _ => ?_))
      | exact ih0 _ _
      | exact ih1 _ _ _
      | exact ih2 _ _ _
      | exact ih3 _ _ _ _
      | exact ih4 _ _
      | exact LeO.none _
      | refine LeO.ite ?_ ?_
      | refine LeO.bind ?_ (fun _ => ?_)
theorem knapsackref01_Get.mono : ∀ a0 k, LeO (knapsackref01_Get.f k a0) (knapsackref01_Get.f (k + 1) a0) := by
  intro a0 k
  obtain ⟨ih0, ih1, ih2, ih3, ih4⟩ := knapsackref01_Get.mono_l k
  unfold knapsackref01_Get.f
  repeat' first
      | (with_reducible exact ih0 _ _)
      | (with_reducible exact ih1 _ _ _)
      | (with_reducible exact ih2 _ _ _)
      | (with_reducible exact ih3 _ _ _ _)
      | (with_reducible exact ih4 _ _)
      | (with_reducible exact LeO.refl _)
      | (with_reducible exact LeO.none _)
      | (with_reducible refine LeO.ite ?_ ?_)
      | (with_reducible refine LeO.bind ?_ (fun _ => ?_))
      | exact ih0 _ _
      | exact ih1 _ _ _
      | exact ih2 _ _ _
      | exact ih3 _ _ _ _
      | exact ih4 _ _
      | exact LeO.none _
      | refine LeO.ite ?_ ?_
      | refine LeO.bind ?_ (fun _ => ?_)
set_option maxHeartbeats 8000000 in
set_option maxRecDepth 100000 in
theorem knapsackref01_Get.calls (k : Nat) (a0 : ByteArray) (r1 : Int) (r2 : Int) (w : World) (h : knapsackref01_Get.f k a0 = some (r1, r2)) :
    Calls Try.prog 24 #[.string a0] w fun e w' => e = .returned (.tuple #[.int .u64 r1, .int .i64 r2]) ∧ Drawn0 w w' := by
  have H : (knapsackref01_Get.l0 k a0 0) = some (r1, r2) := h
  clear h
  have HC2 := Aside0.mk H
  clear H
  go_enter Try.func24, Try.ntmps24
  go_upto_block 0 with (fail)
  go_cut [4] (fun v4 wc => ∃ (kq : Nat) (x4_1 : Int), v4 = .int .i64 x4_1 ∧ Aside0 (knapsackref01_Get.j1 kq a0 x4_1 = some (r1, r2)) ∧ Aside0 (kq ≤ k) ∧ Drawn0 w wc)
  case first =>
    have H := HC2.out
    clear HC2
    have H' := Aside0.mk H
    clear H
    go_wp2
    go_loopg [4] k (fun kq v4 w' => ∃ (x4_1 : Int), v4 = .int .i64 x4_1 ∧ Aside0 (knapsackref01_Get.l0 kq a0 x4_1 = some (r1, r2)) ∧ Aside0 (kq ≤ k) ∧ Drawn0 w w')
    case atStart => exact ⟨(0), (by first | rfl | (simp; done) | (simp; omega) | (simp [*]; done)), H', ⟨Nat.le_refl _⟩, by repeat (first | exact Drawn0.refl _ | apply Drawn0.step)⟩
    case round =>
      clear H'
      try clear c2
      try clear p2
      obtain ⟨x4_1, rfl, HA, HK1, ⟨m1, rfl⟩⟩ := hrel
      cases gk with
      | zero => exact absurd HA.out (by simp [knapsackref01_Get.l0])
      | succ k1 =>
        have H := HA.out
        clear HA
        simp only [knapsackref01_Get.l0] at H
        by_cases c3 : x4_1 < (a0.size : Int)
        · rw [if_pos c3] at H
          have c3b0 : decide (x4_1 < (a0.size : Int)) = true := decide_eq_true c3
          clear c3
          (first | rw [c3b0] | (simp only [i64_w, i32_w]; rw [c3b0]) | skip)
          by_cases c4 : x4_1 < 10
          · rw [if_pos c4] at H
            have c4b0 : decide (x4_1 < 10) = true := decide_eq_true c4
            clear c4
            by_cases c5 : 0 ≤ x4_1
            · rw [if_pos c5] at H
              have c5b0 : decide (0 ≤ x4_1) = true := decide_eq_true c5
              clear c5
              by_cases c7 : (bt a0 x4_1) ≥ 128
              · rw [if_pos c7] at H
                have c7b0 : decide (128 ≤ (bt a0 x4_1)) = true := decide_eq_true c7
                clear c7
                have H' := Aside0.mk H
                clear H
                have p6 : 0 ≤ (x4_1 : Int) := of_decide_eq_true (by first | (with_reducible assumption) | assumption)
                have q6 : x4_1 < (a0.size : Int) := of_decide_eq_true (by first | (with_reducible assumption) | assumption)
                have hx6 := bt_at a0 x4_1
                replace p6 := eq_true p6
                replace q6 := eq_true q6
                go_wp2
                go_roundg k1
                case measure => have := HK1.out; omega
                case rel => exact ⟨(wrap64 (x4_1 + 1)), (by first | rfl | (simp; done) | (simp; omega) | (simp [*]; done)), H', ⟨by have := HK1.out; omega⟩, by repeat (first | exact Drawn0.refl _ | apply Drawn0.step)⟩
              · rw [if_neg c7] at H
                have c7b0 : decide (128 ≤ (bt a0 x4_1)) = false := decide_eq_false c7
                clear c7
                have H' := Aside0.mk H
                clear H
                have p6 : 0 ≤ (x4_1 : Int) := of_decide_eq_true (by first | (with_reducible assumption) | assumption)
                have q6 : x4_1 < (a0.size : Int) := of_decide_eq_true (by first | (with_reducible assumption) | assumption)
                have hx6 := bt_at a0 x4_1
                replace p6 := eq_true p6
                replace q6 := eq_true q6
                go_wp2
                go_meet
                case rel => exact ⟨_, (x4_1), (by first | rfl | (simp; done) | (simp; omega) | (simp [*]; done)), H', ⟨by have := HK1.out; first | omega | exact Nat.le_refl _⟩, by repeat (first | exact Drawn0.refl _ | apply Drawn0.step)⟩
            · rw [if_neg c5] at H
              exact absurd H (by simp)
          · rw [if_neg c4] at H
            have c4b0 : decide (x4_1 < 10) = false := decide_eq_false c4
            clear c4
            have H' := Aside0.mk H
            clear H
            go_wp2
            go_meet
            case rel => exact ⟨_, (x4_1), (by first | rfl | (simp; done) | (simp; omega) | (simp [*]; done)), H', ⟨by have := HK1.out; first | omega | exact Nat.le_refl _⟩, by repeat (first | exact Drawn0.refl _ | apply Drawn0.step)⟩
        · rw [if_neg c3] at H
          have c3b0 : decide (x4_1 < (a0.size : Int)) = false := decide_eq_false c3
          clear c3
          (first | rw [c3b0] | (simp only [i64_w, i32_w]; rw [c3b0]) | skip)
          have H' := Aside0.mk H
          clear H
          go_wp2
          go_meet
          case rel => exact ⟨_, (x4_1), (by first | rfl | (simp; done) | (simp; omega) | (simp [*]; done)), H', ⟨by have := HK1.out; first | omega | exact Nat.le_refl _⟩, by repeat (first | exact Drawn0.refl _ | apply Drawn0.step)⟩
  case rest =>
    clear HC2
    try clear c2
    try clear p2
    try clear c3
    try clear c3b0
    try clear c4
    try clear c4b0
    try clear c5
    try clear c5b0
    try clear p6
    try clear q6
    try clear hx6
    try clear c7
    try clear c7b0
    try clear p2
    try clear p6
    try clear q6
    obtain ⟨kq, x4_1, rfl, HA, HJ1, ⟨mc1, rfl⟩⟩ := hcut
    cases kq with
    | zero => exact absurd HA.out (by simp [knapsackref01_Get.j1])
    | succ kj1 =>
      have H := HA.out
      clear HA
      simp only [knapsackref01_Get.j1] at H
      have HC8 := Aside0.mk H
      clear H
      go_upto_region 4 with (fail)
      go_cut [30] (fun v30 wc => ∃ (kq : Nat) (x30_7 : Bool), v30 = .bool x30_7 ∧ Aside0 (knapsackref01_Get.j2 kq a0 x4_1 x30_7 = some (r1, r2)) ∧ Aside0 (kq ≤ kj1) ∧ Drawn0 w wc)
      case first =>
        have H := HC8.out
        clear HC8
        by_cases c9 : x4_1 ≥ (a0.size : Int)
        · rw [if_pos c9] at H
          have c9b0 : decide ((a0.size : Int) ≤ x4_1) = true := decide_eq_true c9
          clear c9
          (first | rw [c9b0] | (simp only [i64_w, i32_w]; rw [c9b0]) | skip)
          have H' := Aside0.mk H
          clear H
          go_wp2
          go_meet
          case rel => exact ⟨_, (true), (by first | rfl | (simp; done) | (simp; omega) | (simp [*]; done)), H', ⟨by have := HJ1.out; first | omega | exact Nat.le_refl _⟩, by repeat (first | exact Drawn0.refl _ | apply Drawn0.step)⟩
        · rw [if_neg c9] at H
          have c9b0 : decide ((a0.size : Int) ≤ x4_1) = false := decide_eq_false c9
          clear c9
          (first | rw [c9b0] | (simp only [i64_w, i32_w]; rw [c9b0]) | skip)
          have H' := Aside0.mk H
          clear H
          go_wp2
          go_meet
          case rel => exact ⟨_, (decide (x4_1 ≥ 10)), (by first | rfl | (simp; done) | (simp; omega) | (simp [*]; done)), H', ⟨by have := HJ1.out; first | omega | exact Nat.le_refl _⟩, by repeat (first | exact Drawn0.refl _ | apply Drawn0.step)⟩
      case rest =>
        clear HC8
        try clear c1
        try clear c2
        try clear p2
        try clear c3
        try clear c3b0
        try clear c4
        try clear c4b0
        try clear c5
        try clear c5b0
        try clear p6
        try clear q6
        try clear hx6
        try clear c7
        try clear c7b0
        try clear c9
        try clear c9b0
        try clear p2
        try clear p6
        try clear q6
        obtain ⟨kq, x30_7, rfl, HA, HJ7, ⟨mc7, rfl⟩⟩ := hcut
        cases kq with
        | zero => exact absurd HA.out (by simp [knapsackref01_Get.j2])
        | succ kj7 =>
          have H := HA.out
          clear HA
          simp only [knapsackref01_Get.j2] at H
          by_cases c10 : x30_7 = true
          · subst c10
            have H1 : (some (0, 0)) = some (r1, r2) := by rw [if_pos rfl] at H; exact H
            clear H
            have H := H1
            clear H1
            simp only [Option.some.injEq, Prod.mk.injEq] at H
            obtain ⟨rfl, rfl⟩ := H
            go_wp2
            go_ret2
            exact ⟨by first | rfl | (simp; done) | (simp; omega) | (simp [*]; done), by repeat (first | exact Drawn0.refl _ | apply Drawn0.step)⟩
          · replace c10 := Bool.eq_false_iff.mpr c10
            subst c10
            have H1 : (if x4_1 = 9 then (if 9 < (a0.size : Int) then (if (bt a0 9) > 1 then (knapsackref01_Get.j3 kj7 a0 x4_1 true) else (if x4_1 > 0 then (if 0 ≤ x4_1 then (if x4_1 < (a0.size : Int) then (knapsackref01_Get.j3 kj7 a0 x4_1 ((bt a0 x4_1) == 0)) else (none)) else (none)) else (knapsackref01_Get.j3 kj7 a0 x4_1 false))) else (none)) else (if x4_1 > 0 then (if 0 ≤ x4_1 then (if x4_1 < (a0.size : Int) then (knapsackref01_Get.j3 kj7 a0 x4_1 ((bt a0 x4_1) == 0)) else (none)) else (none)) else (knapsackref01_Get.j3 kj7 a0 x4_1 false))) = some (r1, r2) := by rw [if_neg (show ¬ (false = true) by decide)] at H; exact H
            clear H
            have H := H1
            clear H1
            have HC11 := Aside0.mk H
            clear H
            go_upto_region 6 with (fail)
            go_cut [47] (fun v47 wc => ∃ (kq : Nat) (x47_10 : Bool), v47 = .bool x47_10 ∧ Aside0 (knapsackref01_Get.j3 kq a0 x4_1 x47_10 = some (r1, r2)) ∧ Aside0 (kq ≤ kj7) ∧ Drawn0 w wc)
            case first =>
              have H := HC11.out
              clear HC11
              by_cases c12 : x4_1 = 9
              · rw [if_pos c12] at H
                have c12b0 : (x4_1 == 9) = true := beq_iff_eq.mpr c12
                have c12b1 : (x4_1 != 9) = false := bne_eq_false_iff_eq.mpr c12
                clear c12
                (first | rw [c12b0] | (simp only [i64_w, i32_w]; rw [c12b0]) | skip)
                by_cases c13 : 9 < (a0.size : Int)
                · rw [if_pos c13] at H
                  have c13b0 : decide (9 < (a0.size : Int)) = true := decide_eq_true c13
                  have c13b1 : decide (9 < a0.size) = true := decide_eq_true (by omega)
                  clear c13
                  by_cases c15 : (bt a0 9) > 1
                  · rw [if_pos c15] at H
                    have c15b0 : decide (1 < (bt a0 9)) = true := decide_eq_true c15
                    clear c15
                    have H' := Aside0.mk H
                    clear H
                    have p14 : 0 ≤ (9 : Int) := (by omega)
                    have q14 : 9 < a0.size := (by have : (9 : Int) < (a0.size : Int) := of_decide_eq_true (by first | (with_reducible assumption) | assumption); omega)
                    have hx14 : ∀ h : 9 < a0.size, ((a0[9]'h).toNat : Int) = bt a0 9 := bt_at a0 9
                    clear p14
                    have qi14 : (9 < (a0.size : Int)) = True := eq_true (of_decide_eq_true (by first | (with_reducible assumption) | assumption))
                    replace q14 := eq_true q14
                    go_wp2
                    go_meet
                    case rel => exact ⟨_, (true), (by first | rfl | (simp; done) | (simp; omega) | (simp [*]; done)), H', ⟨by have := HJ1.out; have := HJ7.out; first | omega | exact Nat.le_refl _⟩, by repeat (first | exact Drawn0.refl _ | apply Drawn0.step)⟩
                  · rw [if_neg c15] at H
                    have c15b0 : decide (1 < (bt a0 9)) = false := decide_eq_false c15
                    clear c15
                    by_cases c16 : x4_1 > 0
                    · rw [if_pos c16] at H
                      have c16b0 : decide (0 < x4_1) = true := decide_eq_true c16
                      clear c16
                      by_cases c17 : 0 ≤ x4_1
                      · rw [if_pos c17] at H
                        have c17b0 : decide (0 ≤ x4_1) = true := decide_eq_true c17
                        clear c17
                        by_cases c18 : x4_1 < (a0.size : Int)
                        · rw [if_pos c18] at H
                          have c18b0 : decide (x4_1 < (a0.size : Int)) = true := decide_eq_true c18
                          clear c18
                          have H' := Aside0.mk H
                          clear H
                          have p14 : 0 ≤ (9 : Int) := (by omega)
                          have q14 : 9 < a0.size := (by have : (9 : Int) < (a0.size : Int) := of_decide_eq_true (by first | (with_reducible assumption) | assumption); omega)
                          have hx14 : ∀ h : 9 < a0.size, ((a0[9]'h).toNat : Int) = bt a0 9 := bt_at a0 9
                          clear p14
                          have qi14 : (9 < (a0.size : Int)) = True := eq_true (of_decide_eq_true (by first | (with_reducible assumption) | assumption))
                          replace q14 := eq_true q14
                          have p19 : 0 ≤ (x4_1 : Int) := of_decide_eq_true (by first | (with_reducible assumption) | assumption)
                          have q19 : x4_1 < (a0.size : Int) := of_decide_eq_true (by first | (with_reducible assumption) | assumption)
                          have hx19 := bt_at a0 x4_1
                          replace p19 := eq_true p19
                          replace q19 := eq_true q19
                          go_wp2
                          go_meet
                          case rel => exact ⟨_, (((bt a0 x4_1) == 0)), (by first | rfl | (simp; done) | (simp; omega) | (simp [*]; done)), H', ⟨by have := HJ1.out; have := HJ7.out; first | omega | exact Nat.le_refl _⟩, by repeat (first | exact Drawn0.refl _ | apply Drawn0.step)⟩
                        · rw [if_neg c18] at H
                          exact absurd H (by simp)
                      · rw [if_neg c17] at H
                        exact absurd H (by simp)
                    · rw [if_neg c16] at H
                      have c16b0 : decide (0 < x4_1) = false := decide_eq_false c16
                      clear c16
                      have H' := Aside0.mk H
                      clear H
                      have p14 : 0 ≤ (9 : Int) := (by omega)
                      have q14 : 9 < a0.size := (by have : (9 : Int) < (a0.size : Int) := of_decide_eq_true (by first | (with_reducible assumption) | assumption); omega)
                      have hx14 : ∀ h : 9 < a0.size, ((a0[9]'h).toNat : Int) = bt a0 9 := bt_at a0 9
                      clear p14
                      have qi14 : (9 < (a0.size : Int)) = True := eq_true (of_decide_eq_true (by first | (with_reducible assumption) | assumption))
                      replace q14 := eq_true q14
                      go_wp2
                      go_meet
                      case rel => exact ⟨_, (false), (by first | rfl | (simp; done) | (simp; omega) | (simp [*]; done)), H', ⟨by have := HJ1.out; have := HJ7.out; first | omega | exact Nat.le_refl _⟩, by repeat (first | exact Drawn0.refl _ | apply Drawn0.step)⟩
                · rw [if_neg c13] at H
                  exact absurd H (by simp)
              · rw [if_neg c12] at H
                have c12b0 : (x4_1 == 9) = false := beq_eq_false_iff_ne.mpr c12
                have c12b1 : (x4_1 != 9) = true := bne_iff_ne.mpr c12
                (first | rw [c12b0] | (simp only [i64_w, i32_w]; rw [c12b0]) | skip)
                by_cases c20 : x4_1 > 0
                · rw [if_pos c20] at H
                  have c20b0 : decide (0 < x4_1) = true := decide_eq_true c20
                  clear c20
                  by_cases c21 : 0 ≤ x4_1
                  · rw [if_pos c21] at H
                    have c21b0 : decide (0 ≤ x4_1) = true := decide_eq_true c21
                    clear c21
                    by_cases c22 : x4_1 < (a0.size : Int)
                    · rw [if_pos c22] at H
                      have c22b0 : decide (x4_1 < (a0.size : Int)) = true := decide_eq_true c22
                      clear c22
                      have H' := Aside0.mk H
                      clear H
                      have p23 : 0 ≤ (x4_1 : Int) := of_decide_eq_true (by first | (with_reducible assumption) | assumption)
                      have q23 : x4_1 < (a0.size : Int) := of_decide_eq_true (by first | (with_reducible assumption) | assumption)
                      have hx23 := bt_at a0 x4_1
                      replace p23 := eq_true p23
                      replace q23 := eq_true q23
                      go_wp2
                      go_meet
                      case rel => exact ⟨_, (((bt a0 x4_1) == 0)), (by first | rfl | (simp; done) | (simp; omega) | (simp [*]; done)), H', ⟨by have := HJ1.out; have := HJ7.out; first | omega | exact Nat.le_refl _⟩, by repeat (first | exact Drawn0.refl _ | apply Drawn0.step)⟩
                    · rw [if_neg c22] at H
                      exact absurd H (by simp)
                  · rw [if_neg c21] at H
                    exact absurd H (by simp)
                · rw [if_neg c20] at H
                  have c20b0 : decide (0 < x4_1) = false := decide_eq_false c20
                  clear c20
                  have H' := Aside0.mk H
                  clear H
                  go_wp2
                  go_meet
                  case rel => exact ⟨_, (false), (by first | rfl | (simp; done) | (simp; omega) | (simp [*]; done)), H', ⟨by have := HJ1.out; have := HJ7.out; first | omega | exact Nat.le_refl _⟩, by repeat (first | exact Drawn0.refl _ | apply Drawn0.step)⟩
            case rest =>
              clear HC11
              try clear c1
              try clear p1
              try clear q1
              try clear hx1
              try clear qi1
              try clear c2
              try clear p2
              try clear q2
              try clear hx2
              try clear c3
              try clear c3b0
              try clear c4
              try clear c4b0
              try clear c5
              try clear c5b0
              try clear p6
              try clear q6
              try clear hx6
              try clear c7
              try clear c7b0
              try clear c9
              try clear c9b0
              try clear c10
              try clear c12
              try clear c12b0
              try clear c12b1
              try clear c13
              try clear c13b0
              try clear c13b1
              try clear p14
              try clear q14
              try clear hx14
              try clear qi14
              try clear c15
              try clear c15b0
              try clear c16
              try clear c16b0
              try clear c17
              try clear c17b0
              try clear c18
              try clear c18b0
              try clear p19
              try clear q19
              try clear hx19
              try clear c20
              try clear c20b0
              try clear c21
              try clear c21b0
              try clear c22
              try clear c22b0
              try clear p23
              try clear q23
              try clear hx23
              try clear p14
              try clear p19
              try clear p2
              try clear p23
              try clear p6
              try clear q14
              try clear q19
              try clear q23
              try clear q6
              obtain ⟨kq, x47_10, rfl, HA, HJ10, ⟨mc10, rfl⟩⟩ := hcut
              cases kq with
              | zero => exact absurd HA.out (by simp [knapsackref01_Get.j3])
              | succ kj10 =>
                have H := HA.out
                clear HA
                simp only [knapsackref01_Get.j3] at H
                by_cases c24 : x47_10 = true
                · subst c24
                  have H1 : (some (0, 0)) = some (r1, r2) := by rw [if_pos rfl] at H; exact H
                  clear H
                  have H := H1
                  clear H1
                  simp only [Option.some.injEq, Prod.mk.injEq] at H
                  obtain ⟨rfl, rfl⟩ := H
                  go_wp2
                  go_ret2
                  exact ⟨by first | rfl | (simp; done) | (simp; omega) | (simp [*]; done), by repeat (first | exact Drawn0.refl _ | apply Drawn0.step)⟩
                · replace c24 := Bool.eq_false_iff.mpr c24
                  subst c24
                  have H1 : (knapsackref01_Get.l1 kj10 a0 x4_1 0 x4_1) = some (r1, r2) := by rw [if_neg (show ¬ (false = true) by decide)] at H; exact H
                  clear H
                  have H := H1
                  clear H1
                  have H' := Aside0.mk H
                  clear H
                  go_wp2
                  go_loopg [5, 6] kj10 (fun kq v5 v6 w' => ∃ (x5_4 : Int) (x6_4 : Int), v5 = .int .u64 x5_4 ∧ v6 = .int .i64 x6_4 ∧ Aside0 (knapsackref01_Get.l1 kq a0 x4_1 x5_4 x6_4 = some (r1, r2)) ∧ Aside0 (kq ≤ kj10) ∧ Drawn0 w w')
                  case atStart => exact ⟨(0), (x4_1), (by first | rfl | (simp; done) | (simp; omega) | (simp [*]; done)), (by first | rfl | (simp; done) | (simp; omega) | (simp [*]; done)), H', ⟨Nat.le_refl _⟩, by repeat (first | exact Drawn0.refl _ | apply Drawn0.step)⟩
                  case round =>
                    clear H'
                    try clear c1
                    try clear p1
                    try clear q1
                    try clear hx1
                    try clear qi1
                    try clear c2
                    try clear p2
                    try clear q2
                    try clear hx2
                    try clear c3
                    try clear c3b0
                    try clear c4
                    try clear c4b0
                    try clear c5
                    try clear c5b0
                    try clear p6
                    try clear q6
                    try clear hx6
                    try clear c7
                    try clear c7b0
                    try clear c9
                    try clear c9b0
                    try clear c10
                    try clear c12
                    try clear c12b0
                    try clear c12b1
                    try clear c13
                    try clear c13b0
                    try clear c13b1
                    try clear p14
                    try clear q14
                    try clear hx14
                    try clear qi14
                    try clear c15
                    try clear c15b0
                    try clear c16
                    try clear c16b0
                    try clear c17
                    try clear c17b0
                    try clear c18
                    try clear c18b0
                    try clear p19
                    try clear q19
                    try clear hx19
                    try clear c20
                    try clear c20b0
                    try clear c21
                    try clear c21b0
                    try clear c22
                    try clear c22b0
                    try clear p23
                    try clear q23
                    try clear hx23
                    try clear c24
                    try clear p1
                    try clear p14
                    try clear p19
                    try clear p2
                    try clear p23
                    try clear p6
                    try clear q1
                    try clear q14
                    try clear q19
                    try clear q2
                    try clear q23
                    try clear q6
                    obtain ⟨x5_4, x6_4, rfl, rfl, HA, HK4, ⟨m4, rfl⟩⟩ := hrel
                    cases gk with
                    | zero => exact absurd HA.out (by simp [knapsackref01_Get.l1])
                    | succ k4 =>
                      have H := HA.out
                      clear HA
                      simp only [knapsackref01_Get.l1] at H
                      by_cases c25 : x6_4 ≥ 0
                      · rw [if_pos c25] at H
                        have c25b0 : decide (0 ≤ x6_4) = true := decide_eq_true c25
                        clear c25
                        by_cases c26 : 0 ≤ x6_4
                        · rw [if_pos c26] at H
                          have c26b0 : decide (0 ≤ x6_4) = true := decide_eq_true c26
                          clear c26
                          by_cases c27 : x6_4 < (a0.size : Int)
                          · rw [if_pos c27] at H
                            have c27b0 : decide (x6_4 < (a0.size : Int)) = true := decide_eq_true c27
                            clear c27
                            have H' := Aside0.mk H
                            clear H
                            have p28 : 0 ≤ (x6_4 : Int) := of_decide_eq_true (by first | (with_reducible assumption) | assumption)
                            have q28 : x6_4 < (a0.size : Int) := of_decide_eq_true (by first | (with_reducible assumption) | assumption)
                            have hx28 := bt_at a0 x6_4
                            replace p28 := eq_true p28
                            replace q28 := eq_true q28
                            go_wp2
                            go_roundg k4
                            case measure => have := HJ1.out; have := HJ7.out; have := HJ10.out; have := HK4.out; omega
                            case rel => exact ⟨(IntKind.u64.wrap ((IntKind.u64.wrap (128 * x5_4)) + (IntKind.u64.wrap (Int.tmod (bt a0 x6_4) 128)))), (wrap64 (x6_4 - 1)), (by first | rfl | (simp; done) | (simp; omega) | (simp [*]; done)), (by first | rfl | (simp; done) | (simp; omega) | (simp [*]; done)), H', ⟨by have := HJ1.out; have := HJ7.out; have := HJ10.out; have := HK4.out; omega⟩, by repeat (first | exact Drawn0.refl _ | apply Drawn0.step)⟩
                          · rw [if_neg c27] at H
                            exact absurd H (by simp)
                        · rw [if_neg c26] at H
                          exact absurd H (by simp)
                      · rw [if_neg c25] at H
                        have c25b0 : decide (0 ≤ x6_4) = false := decide_eq_false c25
                        clear c25
                        simp only [Option.some.injEq, Prod.mk.injEq] at H
                        obtain ⟨rfl, rfl⟩ := H
                        go_wp2
                        go_ret2
                        exact ⟨by first | rfl | (simp; done) | (simp; omega) | (simp [*]; done), by repeat (first | exact Drawn0.refl _ | apply Drawn0.step)⟩

/-! ### varint_Take: function 25 -/
def varint_Take.f (k : Nat) (a0 : ByteArray) : Option (ByteArray × ByteArray × Int) := (varint_Get.f k a0).bind fun bt171 => (if bt171.2.2 = 0 then (if bt171.1 > (IntKind.u64.wrap ((bt171.2.1.size : Int))) then (some ((⟨#[]⟩ : ByteArray), (⟨#[]⟩ : ByteArray), 2)) else (if 0 ≤ bt171.1 then (if bt171.1 ≤ (bt171.2.1.size : Int) then (some (bt171.2.1.extract 0 (bt171.1 : Int).toNat, bt171.2.1.extract (bt171.1 : Int).toNat bt171.2.1.size, 0)) else (none)) else (none))) else (some ((⟨#[]⟩ : ByteArray), (⟨#[]⟩ : ByteArray), 2)))
theorem varint_Take.mono : ∀ a0 k, LeO (varint_Take.f k a0) (varint_Take.f (k + 1) a0) := by
  intro a0 k
  unfold varint_Take.f
  repeat' first
      | (with_reducible exact varint_Get.mono _ _)
      | (with_reducible exact LeO.refl _)
      | (with_reducible exact LeO.none _)
      | (with_reducible refine LeO.ite ?_ ?_)
      | (with_reducible refine LeO.bind ?_ (fun _ => ?_))
      | exact varint_Get.mono _ _
      | exact LeO.none _
      | refine LeO.ite ?_ ?_
      | refine LeO.bind ?_ (fun _ => ?_)
set_option maxHeartbeats 8000000 in
set_option maxRecDepth 100000 in
theorem varint_Take.calls (k : Nat) (a0 : ByteArray) (r1 : ByteArray) (r2 : ByteArray) (r3 : Int) (w : World) (h : varint_Take.f k a0 = some (r1, r2, r3)) :
    Calls Try.prog 25 #[.string a0] w fun e w' => e = .returned (.tuple #[.string r1, .string r2, .int .i64 r3]) ∧ Below w.heap.size w w' := by
  have HB := Aside0.mk (Below.refl w.heap.size w)
  have H : ((varint_Get.f k a0).bind fun bt171 => (if bt171.2.2 = 0 then (if bt171.1 > (IntKind.u64.wrap ((bt171.2.1.size : Int))) then (some ((⟨#[]⟩ : ByteArray), (⟨#[]⟩ : ByteArray), 2)) else (if 0 ≤ bt171.1 then (if bt171.1 ≤ (bt171.2.1.size : Int) then (some (bt171.2.1.extract 0 (bt171.1 : Int).toNat, bt171.2.1.extract (bt171.1 : Int).toNat bt171.2.1.size, 0)) else (none)) else (none))) else (some ((⟨#[]⟩ : ByteArray), (⟨#[]⟩ : ByteArray), 2)))) = some (r1, r2, r3) := h
  clear h
  replace H := Option.bind_eq_some_iff.mp H
  obtain ⟨⟨t171, t172, t173⟩, A20, H⟩ := H
  replace H : (if t173 = 0 then (if t171 > (IntKind.u64.wrap ((t172.size : Int))) then (some ((⟨#[]⟩ : ByteArray), (⟨#[]⟩ : ByteArray), 2)) else (if 0 ≤ t171 then (if t171 ≤ (t172.size : Int) then (some (t172.extract 0 (t171 : Int).toNat, t172.extract (t171 : Int).toNat t172.size, 0)) else (none)) else (none))) else (some ((⟨#[]⟩ : ByteArray), (⟨#[]⟩ : ByteArray), 2))) = some (r1, r2, r3) := H
  have A2 := Aside0.mk A20
  clear A20
  by_cases c3 : t173 = 0
  · rw [if_pos c3] at H
    have c3b0 : (t173 == 0) = true := beq_iff_eq.mpr c3
    have c3b1 : (t173 != 0) = false := bne_eq_false_iff_eq.mpr c3
    clear c3
    by_cases c4 : t171 > (IntKind.u64.wrap ((t172.size : Int)))
    · rw [if_pos c4] at H
      have c4b0 : decide ((IntKind.u64.wrap ((t172.size : Int))) < t171) = true := decide_eq_true c4
      clear c4
      simp only [Option.some.injEq, Prod.mk.injEq] at H
      obtain ⟨rfl, rfl, rfl⟩ := H
      go_enter Try.func25, Try.ntmps25
      go_wp2_with (first | (go_at_call 23; (with_reducible refine (varint_Get.calls k a0 t171 t172 t173 _ A2.out).mono ?_); rintro e w5 ⟨rfl, hb⟩; have n0_ := Aside0.mk (below_step (by repeat (first | (with_reducible first | exact HB.out | apply below_alloc | apply pw_below_drewN | apply below_drew1) | exact HB.out)) hb); clear HB; have HB := n0_; clear n0_; (try clear hb); (try clear hb2); (try clear hk); (try clear hi)))
      repeat (go_quiet (first | (go_at_call 23; (with_reducible refine (varint_Get.calls k a0 t171 t172 t173 _ A2.out).mono ?_); rintro e w5 ⟨rfl, hb⟩; have n0_ := Aside0.mk (below_step (by repeat (first | (with_reducible first | exact HB.out | apply below_alloc | apply pw_below_drewN | apply below_drew1) | exact HB.out)) hb); clear HB; have HB := n0_; clear n0_; (try clear hb); (try clear hb2); (try clear hk); (try clear hi))); try go_wp2_with (first | (go_at_call 23; (with_reducible refine (varint_Get.calls k a0 t171 t172 t173 _ A2.out).mono ?_); rintro e w5 ⟨rfl, hb⟩; have n0_ := Aside0.mk (below_step (by repeat (first | (with_reducible first | exact HB.out | apply below_alloc | apply pw_below_drewN | apply below_drew1) | exact HB.out)) hb); clear HB; have HB := n0_; clear n0_; (try clear hb); (try clear hb2); (try clear hk); (try clear hi))))
      go_ret3
      exact ⟨by first | rfl | (simp [errW_none, errW_some] <;> rfl) | (simp [*, errW_none, errW_some] <;> rfl), by repeat (first | (with_reducible first | exact HB.out | apply below_alloc | apply pw_below_drewN | apply below_drew1) | exact HB.out)⟩
    · rw [if_neg c4] at H
      have c4b0 : decide ((IntKind.u64.wrap ((t172.size : Int))) < t171) = false := decide_eq_false c4
      clear c4
      by_cases c6 : 0 ≤ t171
      · rw [if_pos c6] at H
        have c6b0 := eq_true c6
        have c6b1 : decide (0 ≤ t171) = true := decide_eq_true c6
        clear c6
        by_cases c7 : t171 ≤ (t172.size : Int)
        · rw [if_pos c7] at H
          have c7b0 := eq_true c7
          have c7b1 : decide (t171 ≤ (t172.size : Int)) = true := decide_eq_true c7
          clear c7
          have c8b0 := eq_true (of_decide_eq_true (by first | (with_reducible assumption) | assumption) : 0 ≤ t171)
          have c9b0 := eq_true (of_decide_eq_true (by first | (with_reducible assumption) | assumption) : t171 ≤ (t172.size : Int))
          simp only [Option.some.injEq, Prod.mk.injEq] at H
          obtain ⟨rfl, rfl, rfl⟩ := H
          go_enter Try.func25, Try.ntmps25
          go_wp2_with (first | (go_at_call 23; (with_reducible refine (varint_Get.calls k a0 t171 t172 t173 _ A2.out).mono ?_); rintro e w10 ⟨rfl, hb⟩; have n0_ := Aside0.mk (below_step (by repeat (first | (with_reducible first | exact HB.out | apply below_alloc | apply pw_below_drewN | apply below_drew1) | exact HB.out)) hb); clear HB; have HB := n0_; clear n0_; (try clear hb); (try clear hb2); (try clear hk); (try clear hi)))
          repeat (go_quiet (first | (go_at_call 23; (with_reducible refine (varint_Get.calls k a0 t171 t172 t173 _ A2.out).mono ?_); rintro e w10 ⟨rfl, hb⟩; have n0_ := Aside0.mk (below_step (by repeat (first | (with_reducible first | exact HB.out | apply below_alloc | apply pw_below_drewN | apply below_drew1) | exact HB.out)) hb); clear HB; have HB := n0_; clear n0_; (try clear hb); (try clear hb2); (try clear hk); (try clear hi))); try go_wp2_with (first | (go_at_call 23; (with_reducible refine (varint_Get.calls k a0 t171 t172 t173 _ A2.out).mono ?_); rintro e w10 ⟨rfl, hb⟩; have n0_ := Aside0.mk (below_step (by repeat (first | (with_reducible first | exact HB.out | apply below_alloc | apply pw_below_drewN | apply below_drew1) | exact HB.out)) hb); clear HB; have HB := n0_; clear n0_; (try clear hb); (try clear hb2); (try clear hk); (try clear hi))))
          go_ret3
          exact ⟨by first | rfl | (simp [errW_none, errW_some] <;> rfl) | (simp [*, errW_none, errW_some] <;> rfl), by repeat (first | (with_reducible first | exact HB.out | apply below_alloc | apply pw_below_drewN | apply below_drew1) | exact HB.out)⟩
        · rw [if_neg c7] at H
          exact absurd H (by simp)
      · rw [if_neg c6] at H
        exact absurd H (by simp)
  · rw [if_neg c3] at H
    have c3b0 : (t173 == 0) = false := beq_eq_false_iff_ne.mpr c3
    have c3b1 : (t173 != 0) = true := bne_iff_ne.mpr c3
    simp only [Option.some.injEq, Prod.mk.injEq] at H
    obtain ⟨rfl, rfl, rfl⟩ := H
    go_enter Try.func25, Try.ntmps25
    go_wp2_with (first | (go_at_call 23; (with_reducible refine (varint_Get.calls k a0 t171 t172 t173 _ A2.out).mono ?_); rintro e w11 ⟨rfl, hb⟩; have n0_ := Aside0.mk (below_step (by repeat (first | (with_reducible first | exact HB.out | apply below_alloc | apply pw_below_drewN | apply below_drew1) | exact HB.out)) hb); clear HB; have HB := n0_; clear n0_; (try clear hb); (try clear hb2); (try clear hk); (try clear hi)))
    repeat (go_quiet (first | (go_at_call 23; (with_reducible refine (varint_Get.calls k a0 t171 t172 t173 _ A2.out).mono ?_); rintro e w11 ⟨rfl, hb⟩; have n0_ := Aside0.mk (below_step (by repeat (first | (with_reducible first | exact HB.out | apply below_alloc | apply pw_below_drewN | apply below_drew1) | exact HB.out)) hb); clear HB; have HB := n0_; clear n0_; (try clear hb); (try clear hb2); (try clear hk); (try clear hi))); try go_wp2_with (first | (go_at_call 23; (with_reducible refine (varint_Get.calls k a0 t171 t172 t173 _ A2.out).mono ?_); rintro e w11 ⟨rfl, hb⟩; have n0_ := Aside0.mk (below_step (by repeat (first | (with_reducible first | exact HB.out | apply below_alloc | apply pw_below_drewN | apply below_drew1) | exact HB.out)) hb); clear HB; have HB := n0_; clear n0_; (try clear hb); (try clear hb2); (try clear hk); (try clear hi))))
    go_ret3
    exact ⟨by first | rfl | (simp [errW_none, errW_some] <;> rfl) | (simp [*, errW_none, errW_some] <;> rfl), by repeat (first | (with_reducible first | exact HB.out | apply below_alloc | apply pw_below_drewN | apply below_drew1) | exact HB.out)⟩

/-! ### knapsackref01_Take: function 26 -/
def knapsackref01_Take.f (k : Nat) (a0 : ByteArray) : Option (ByteArray × Int) := (knapsackref01_Get.f k a0).bind fun bt174 => (if bt174.2 = 0 then (some ((⟨#[]⟩ : ByteArray), 0)) else (if bt174.1 > (IntKind.u64.wrap (wrap64 ((a0.size : Int) - bt174.2))) then (some ((⟨#[]⟩ : ByteArray), 0)) else (if 0 ≤ bt174.2 then (if bt174.2 ≤ (wrap64 (bt174.2 + (wrap64 (bt174.1)))) then (if (wrap64 (bt174.2 + (wrap64 (bt174.1)))) ≤ (a0.size : Int) then (some (a0.extract (bt174.2 : Int).toNat ((wrap64 (bt174.2 + (wrap64 (bt174.1)))) : Int).toNat, wrap64 (bt174.2 + (wrap64 (bt174.1))))) else (none)) else (none)) else (none))))
theorem knapsackref01_Take.mono : ∀ a0 k, LeO (knapsackref01_Take.f k a0) (knapsackref01_Take.f (k + 1) a0) := by
  intro a0 k
  unfold knapsackref01_Take.f
  repeat' first
      | (with_reducible exact knapsackref01_Get.mono _ _)
      | (with_reducible exact LeO.refl _)
      | (with_reducible exact LeO.none _)
      | (with_reducible refine LeO.ite ?_ ?_)
      | (with_reducible refine LeO.bind ?_ (fun _ => ?_))
      | exact knapsackref01_Get.mono _ _
      | exact LeO.none _
      | refine LeO.ite ?_ ?_
      | refine LeO.bind ?_ (fun _ => ?_)
set_option maxHeartbeats 8000000 in
set_option maxRecDepth 100000 in
theorem knapsackref01_Take.calls (k : Nat) (a0 : ByteArray) (r1 : ByteArray) (r2 : Int) (w : World) (h : knapsackref01_Take.f k a0 = some (r1, r2)) :
    Calls Try.prog 26 #[.string a0] w fun e w' => e = .returned (.tuple #[.string r1, .int .i64 r2]) ∧ Drawn0 w w' := by
  have H : ((knapsackref01_Get.f k a0).bind fun bt174 => (if bt174.2 = 0 then (some ((⟨#[]⟩ : ByteArray), 0)) else (if bt174.1 > (IntKind.u64.wrap (wrap64 ((a0.size : Int) - bt174.2))) then (some ((⟨#[]⟩ : ByteArray), 0)) else (if 0 ≤ bt174.2 then (if bt174.2 ≤ (wrap64 (bt174.2 + (wrap64 (bt174.1)))) then (if (wrap64 (bt174.2 + (wrap64 (bt174.1)))) ≤ (a0.size : Int) then (some (a0.extract (bt174.2 : Int).toNat ((wrap64 (bt174.2 + (wrap64 (bt174.1)))) : Int).toNat, wrap64 (bt174.2 + (wrap64 (bt174.1))))) else (none)) else (none)) else (none))))) = some (r1, r2) := h
  clear h
  replace H := Option.bind_eq_some_iff.mp H
  obtain ⟨⟨t174, t175⟩, A20, H⟩ := H
  replace H : (if t175 = 0 then (some ((⟨#[]⟩ : ByteArray), 0)) else (if t174 > (IntKind.u64.wrap (wrap64 ((a0.size : Int) - t175))) then (some ((⟨#[]⟩ : ByteArray), 0)) else (if 0 ≤ t175 then (if t175 ≤ (wrap64 (t175 + (wrap64 (t174)))) then (if (wrap64 (t175 + (wrap64 (t174)))) ≤ (a0.size : Int) then (some (a0.extract (t175 : Int).toNat ((wrap64 (t175 + (wrap64 (t174)))) : Int).toNat, wrap64 (t175 + (wrap64 (t174))))) else (none)) else (none)) else (none)))) = some (r1, r2) := H
  have A2 := Aside0.mk A20
  clear A20
  by_cases c3 : t175 = 0
  · rw [if_pos c3] at H
    have c3b0 : (t175 == 0) = true := beq_iff_eq.mpr c3
    have c3b1 : (t175 != 0) = false := bne_eq_false_iff_eq.mpr c3
    clear c3
    simp only [Option.some.injEq, Prod.mk.injEq] at H
    obtain ⟨rfl, rfl⟩ := H
    go_enter Try.func26, Try.ntmps26
    go_wp2_with (first | ((with_reducible refine gate_callee (f := 24) rfl ?_); refine goesL_ (some 8) rfl rfl Try.func24 (by kernel_rfl) rfl #[.string a0] rfl (by (try simp only [List.map_toArray, List.map_cons, List.map_nil]); first | done | rfl | (simp only [List.length_drop, List.length_take]; rfl)) ?_; (with_reducible refine (knapsackref01_Get.calls k a0 t174 t175 _ A2.out).mono ?_); rintro e w' ⟨rfl, ⟨nd, rfl⟩⟩; refine ⟨_, rfl, ?_⟩))
    go_ret2
    exact ⟨by first | rfl | (simp; done) | (simp; omega) | (simp [*]; done), by repeat (first | exact Drawn0.refl _ | apply Drawn0.step)⟩
  · rw [if_neg c3] at H
    have c3b0 : (t175 == 0) = false := beq_eq_false_iff_ne.mpr c3
    have c3b1 : (t175 != 0) = true := bne_iff_ne.mpr c3
    by_cases c4 : t174 > (IntKind.u64.wrap (wrap64 ((a0.size : Int) - t175)))
    · rw [if_pos c4] at H
      have c4b0 : decide ((IntKind.u64.wrap (wrap64 ((a0.size : Int) - t175))) < t174) = true := decide_eq_true c4
      clear c4
      simp only [Option.some.injEq, Prod.mk.injEq] at H
      obtain ⟨rfl, rfl⟩ := H
      go_enter Try.func26, Try.ntmps26
      go_wp2_with (first | ((with_reducible refine gate_callee (f := 24) rfl ?_); refine goesL_ (some 8) rfl rfl Try.func24 (by kernel_rfl) rfl #[.string a0] rfl (by (try simp only [List.map_toArray, List.map_cons, List.map_nil]); first | done | rfl | (simp only [List.length_drop, List.length_take]; rfl)) ?_; (with_reducible refine (knapsackref01_Get.calls k a0 t174 t175 _ A2.out).mono ?_); rintro e w' ⟨rfl, ⟨nd, rfl⟩⟩; refine ⟨_, rfl, ?_⟩))
      go_ret2
      exact ⟨by first | rfl | (simp; done) | (simp; omega) | (simp [*]; done), by repeat (first | exact Drawn0.refl _ | apply Drawn0.step)⟩
    · rw [if_neg c4] at H
      have c4b0 : decide ((IntKind.u64.wrap (wrap64 ((a0.size : Int) - t175))) < t174) = false := decide_eq_false c4
      clear c4
      by_cases c5 : 0 ≤ t175
      · rw [if_pos c5] at H
        have c5b0 := eq_true c5
        have c5b1 : decide (0 ≤ t175) = true := decide_eq_true c5
        clear c5
        by_cases c6 : t175 ≤ (wrap64 (t175 + (wrap64 (t174))))
        · rw [if_pos c6] at H
          have c6b0 := eq_true c6
          have c6b1 : decide (t175 ≤ (wrap64 (t175 + (wrap64 (t174))))) = true := decide_eq_true c6
          by_cases c7 : (wrap64 (t175 + (wrap64 (t174)))) ≤ (a0.size : Int)
          · rw [if_pos c7] at H
            have c7b0 := eq_true c7
            have c7b1 : decide ((wrap64 (t175 + (wrap64 (t174)))) ≤ (a0.size : Int)) = true := decide_eq_true c7
            simp only [Option.some.injEq, Prod.mk.injEq] at H
            obtain ⟨rfl, rfl⟩ := H
            go_enter Try.func26, Try.ntmps26
            go_wp2_with (first | ((with_reducible refine gate_callee (f := 24) rfl ?_); refine goesL_ (some 8) rfl rfl Try.func24 (by kernel_rfl) rfl #[.string a0] rfl (by (try simp only [List.map_toArray, List.map_cons, List.map_nil]); first | done | rfl | (simp only [List.length_drop, List.length_take]; rfl)) ?_; (with_reducible refine (knapsackref01_Get.calls k a0 t174 t175 _ A2.out).mono ?_); rintro e w' ⟨rfl, ⟨nd, rfl⟩⟩; refine ⟨_, rfl, ?_⟩))
            go_ret2
            exact ⟨by first | rfl | (simp; done) | (simp; omega) | (simp [*]; done), by repeat (first | exact Drawn0.refl _ | apply Drawn0.step)⟩
          · rw [if_neg c7] at H
            exact absurd H (by simp)
        · rw [if_neg c6] at H
          exact absurd H (by simp)
      · rw [if_neg c5] at H
        exact absurd H (by simp)

end Go.Proofs.Ytnmnplbjhejejaa.PA
