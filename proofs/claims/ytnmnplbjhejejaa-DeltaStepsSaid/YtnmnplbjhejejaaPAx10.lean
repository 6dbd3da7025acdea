-- Written by a turned copy of the printer (wip/patchprint.py of this repo), with contracts of this session beside; Lean checks it.
import Derived.Test.YtnmnplbjhejejaaPAx0
import Derived.Test.YtnmnplbjhejejaaPAx6
namespace Go.Proofs.Ytnmnplbjhejejaa.PA
open Go.RowKit Go.Proofs.YtnmnplbjhejejaaW.PrintWords Go.Proofs.YtnmnplbjhejejaaW.PrintLast Go.Proofs.YtnmnplbjhejejaaW.PrintMore
attribute [local go_sem] max2_int min2_int max_two min_two max_three min_three max_four min_four   -- for this text's walks alone
set_option linter.unusedVariables false
set_option linter.unusedSimpArgs false

/-! ### knapsackref06_Apply: function 30 -/
mutual
def knapsackref06_Apply.l0 : Nat → ByteArray → ByteArray → Int → ByteArray → Int → Option (ByteArray × Int)
  | 0, _, _, _, _, _ => none
  | k + 1, x0, x1, x10, x12, x13 => if x13 < (x1.size : Int) then (if 0 ≤ x13 then (if x13 ≤ (x1.size : Int) then ((knapsackref01_Get.f k (x1.extract (x13 : Int).toNat x1.size)).bind fun bt254 => (if bt254.2 = 0 then (knapsackref06_Apply.j1 k x0 x1 x10 x12 x13 bt254.1 bt254.2 true) else (knapsackref06_Apply.j1 k x0 x1 x10 x12 x13 bt254.1 bt254.2 (decide (bt254.1 < 2))))) else (none)) else (none)) else (if (IntKind.u64.wrap ((x12.size : Int))) = x10 then (some (x12, 0)) else (some ((⟨#[]⟩ : ByteArray), 2)))
def knapsackref06_Apply.j1 : Nat → ByteArray → ByteArray → Int → ByteArray → Int → Int → Int → Bool → Option (ByteArray × Int)
  | 0, _, _, _, _, _, _, _, _ => none
  | k + 1, x0, x1, x10, x12, x13, x14, x15, x67 => if x67 = true then (some ((⟨#[]⟩ : ByteArray), 2)) else (if (Int.tmod x14 2) = 0 then (if 0 ≤ (wrap64 (x13 + x15)) then (if (wrap64 (x13 + x15)) ≤ (x1.size : Int) then (knapsackref06_Apply.j2 k x0 x1 x10 x12 (wrap64 (x13 + x15)) x14 (IntKind.u64.wrap (Int.tdiv x14 2)) (x1.extract ((wrap64 (x13 + x15)) : Int).toNat x1.size) 0) else (none)) else (none)) else (if 0 ≤ (wrap64 (x13 + x15)) then (if (wrap64 (x13 + x15)) ≤ (x1.size : Int) then ((knapsackref01_Get.f k (x1.extract ((wrap64 (x13 + x15)) : Int).toNat x1.size)).bind fun bt256 => (if bt256.2 = 0 then (some ((⟨#[]⟩ : ByteArray), 2)) else (knapsackref06_Apply.j2 k x0 x1 x10 x12 (wrap64 ((wrap64 (x13 + x15)) + bt256.2)) x14 (IntKind.u64.wrap (Int.tdiv x14 2)) x0 bt256.1))) else (none)) else (none)))
def knapsackref06_Apply.j2 : Nat → ByteArray → ByteArray → Int → ByteArray → Int → Int → Int → ByteArray → Int → Option (ByteArray × Int)
  | 0, _, _, _, _, _, _, _, _, _ => none
  | k + 1, x0, x1, x10, x12, x13, x14, x16, x17, x18 => if x18 > (IntKind.u64.wrap ((x17.size : Int))) then (knapsackref06_Apply.j3 k x0 x1 x10 x12 x13 x14 x16 x17 x18 true) else (if x16 > (IntKind.u64.wrap ((IntKind.u64.wrap ((x17.size : Int))) - x18)) then (knapsackref06_Apply.j3 k x0 x1 x10 x12 x13 x14 x16 x17 x18 true) else (knapsackref06_Apply.j3 k x0 x1 x10 x12 x13 x14 x16 x17 x18 (decide (x16 > (IntKind.u64.wrap (x10 - (IntKind.u64.wrap ((x12.size : Int)))))))))
def knapsackref06_Apply.j3 : Nat → ByteArray → ByteArray → Int → ByteArray → Int → Int → Int → ByteArray → Int → Bool → Option (ByteArray × Int)
  | 0, _, _, _, _, _, _, _, _, _, _ => none
  | k + 1, x0, x1, x10, x12, x13, x14, x16, x17, x18, x115 => if x115 = true then (some ((⟨#[]⟩ : ByteArray), 2)) else (if 0 ≤ x18 then (if x18 ≤ (IntKind.u64.wrap (x18 + x16)) then (if (IntKind.u64.wrap (x18 + x16)) ≤ (x17.size : Int) then (if x12.size + (x17.extract (x18 : Int).toNat ((IntKind.u64.wrap (x18 + x16)) : Int).toNat).size ≤ 9223372036854775807 then (if (Int.tmod x14 2) = 0 then (knapsackref06_Apply.l0 k x0 x1 x10 (x12 ++ (x17.extract (x18 : Int).toNat ((IntKind.u64.wrap (x18 + x16)) : Int).toNat)) (wrap64 (x13 + (wrap64 (x16))))) else (knapsackref06_Apply.l0 k x0 x1 x10 (x12 ++ (x17.extract (x18 : Int).toNat ((IntKind.u64.wrap (x18 + x16)) : Int).toNat)) x13)) else (none)) else (none)) else (none)) else (none))
end
def knapsackref06_Apply.f (k : Nat) (a0 : ByteArray) (a1 : ByteArray) (a2 : Int) : Option (ByteArray × Int) := if a2 < 0 then (some ((⟨#[]⟩ : ByteArray), 1)) else ((knapsackref01_Get.f k a1).bind fun bt250 => (if bt250.2 = 0 then (some ((⟨#[]⟩ : ByteArray), 2)) else (if 0 ≤ bt250.2 then (if bt250.2 ≤ (a1.size : Int) then ((knapsackref01_Get.f k (a1.extract (bt250.2 : Int).toNat a1.size)).bind fun bt252 => (if bt252.2 = 0 then (some ((⟨#[]⟩ : ByteArray), 2)) else (if bt250.1 = (IntKind.u64.wrap ((a0.size : Int))) then (if bt252.1 > (IntKind.u64.wrap (a2)) then (some ((⟨#[]⟩ : ByteArray), 3)) else (knapsackref06_Apply.l0 k a0 a1 bt252.1 (⟨#[]⟩ : ByteArray) (wrap64 (bt250.2 + bt252.2)))) else (some ((⟨#[]⟩ : ByteArray), 6))))) else (none)) else (none))))
theorem knapsackref06_Apply.mono_l : ∀ k, (∀ y0 y1 y2 y3 y4, LeO (knapsackref06_Apply.l0 k y0 y1 y2 y3 y4) (knapsackref06_Apply.l0 (k + 1) y0 y1 y2 y3 y4)) ∧ (∀ y0 y1 y2 y3 y4 y5 y6 y7, LeO (knapsackref06_Apply.j1 k y0 y1 y2 y3 y4 y5 y6 y7) (knapsackref06_Apply.j1 (k + 1) y0 y1 y2 y3 y4 y5 y6 y7)) ∧ (∀ y0 y1 y2 y3 y4 y5 y6 y7 y8, LeO (knapsackref06_Apply.j2 k y0 y1 y2 y3 y4 y5 y6 y7 y8) (knapsackref06_Apply.j2 (k + 1) y0 y1 y2 y3 y4 y5 y6 y7 y8)) ∧ (∀ y0 y1 y2 y3 y4 y5 y6 y7 y8 y9, LeO (knapsackref06_Apply.j3 k y0 y1 y2 y3 y4 y5 y6 y7 y8 y9) (knapsackref06_Apply.j3 (k + 1) y0 y1 y2 y3 y4 y5 y6 y7 y8 y9))
  | 0 => ⟨fun _ _ _ _ _ r h => by simp [knapsackref06_Apply.l0] at h, fun _ _ _ _ _ _ _ _ r h => by simp [knapsackref06_Apply.j1] at h, fun _ _ _ _ _ _ _ _ _ r h => by simp [knapsackref06_Apply.j2] at h, fun _ _ _ _ _ _ _ _ _ _ r h => by simp [knapsackref06_Apply.j3] at h⟩
  | k + 1 => by
    obtain ⟨ih0, ih1, ih2, ih3⟩ := knapsackref06_Apply.mono_l k
    refine ⟨?_, ?_, ?_, ?_⟩
    · intro y0 y1 y2 y3 y4
      unfold knapsackref06_Apply.l0
      repeat' first
      | (with_reducible exact ih0 _ _ _ _ _)
      | (with_reducible exact ih1 _ _ _ _ _ _ _ _)
      | (with_reducible exact ih2 _ _ _ _ _ _ _ _ _)
      | (with_reducible exact ih3 _ _ _ _ _ _ _ _ _ _)
      | (with_reducible exact knapsackref01_Get.mono _ _)
      | (with_reducible exact LeO.refl _)
      | (with_reducible exact LeO.none _)
      | (with_reducible refine LeO.ite ?_ ?_)
      | (with_reducible refine LeO.bind ?_ (fun _ => ?_))
      | exact ih0 _ _ _ _ _
      | exact ih1 _ _ _ _ _ _ _ _
      | exact ih2 _ _ _ _ _ _ _ _ _
      | exact ih3 _ _ _ _ _ _ _ _ _ _
      | exact knapsackref01_Get.mono _ _
      | exact LeO.none _
      | refine LeO.ite ?_ ?_
      | refine LeO.bind ?_ (fun _ => ?_)
    · intro y0 y1 y2 y3 y4 y5 y6 y7
      unfold knapsackref06_Apply.j1
      repeat' first
      | (with_reducible exact ih0 _ _ _ _ _)
      | (with_reducible exact ih1 _ _ _ _ _ _ _ _)
      | (with_reducible exact ih2 _ _ _ _ _ _ _ _ _)
      | (with_reducible exact ih3 _ _ _ _ _ _ _ _ _ _)
      | (with_reducible exact knapsackref01_Get.mono _ _)
      | (with_reducible exact LeO.refl _)
      | (with_reducible exact LeO.none _)
      | (with_reducible refine LeO.ite ?_ ?_)
      | (with_reducible refine LeO.bind ?_ (fun _ => ?_))
      | exact ih0 _ _ _ _ _
      | exact ih1 _ _ _ _ _ _ _ _
      | exact ih2 _ _ _ _ _ _ _ _ _
      | exact ih3 _ _ _ _ _ _ _ _ _ _
      | exact knapsackref01_Get.mono _ _
      | exact LeO.none _
      | refine LeO.ite ?_ ?_
      | refine LeO.bind ?_ (fun _ => ?_)
    · intro y0 y1 y2 y3 y4 y5 y6 y7 y8
      unfold knapsackref06_Apply.j2
      repeat' first
      | (with_reducible exact ih0 _ _ _ _ _)
      | (with_reducible exact ih1 _ _ _ _ _ _ _ _)
      | (with_reducible exact ih2 _ _ _ _ _ _ _ _ _)
      | (with_reducible exact ih3 _ _ _ _ _ _ _ _ _ _)
      | (with_reducible exact knapsackref01_Get.mono _ _)
      | (with_reducible exact LeO.refl _)
      | (with_reducible exact LeO.none _)
      | (with_reducible refine LeO.ite ?_ ?_)
      | (with_reducible refine LeO.bind ?_ (fun _ => ?_))
      | exact ih0 _ _ _ _ _
      | exact ih1 _ _ _ _ _ _ _ _
      | exact ih2 _ _ _ _ _ _ _ _ _
      | exact ih3 _ _ _ _ _ _ _ _ _ _
      | exact knapsackref01_Get.mono _ _
      | exact LeO.none _
      | refine LeO.ite ?_ ?_
      | refine LeO.bind ?_ (fun _ => ?_)
    · intro y0 y1 y2 y3 y4 y5 y6 y7 y8 y9
      unfold knapsackref06_Apply.j3
      repeat' first
      | (with_reducible exact ih0 _ _ _ _ _)
      | (with_reducible exact ih1 _ _ _ _ _ _ _ _)
      | (with_reducible exact ih2 _ _ _ _ _ _ _ _ _)
      | (with_reducible exact ih3 _ _ _ _ _ _ _ _ _ _)
      | (with_reducible exact knapsackref01_Get.mono _ _)
      | (with_reducible exact LeO.refl _)
      | (with_reducible exact LeO.none _)
      | (with_reducible refine LeO.ite ?_ ?_)
      | (with_reducible refine LeO.bind ?_ (fun _ => ?_))
      | exact ih0 _ _ _ _ _
      | exact ih1 _ _ _ _ _ _ _ _
      | exact ih2 _ _ _ _ _ _ _ _ _
      | exact ih3 _ _ _ _ _ _ _ _ _ _
      | exact knapsackref01_Get.mono _ _
      | exact LeO.none _
      | refine LeO.ite ?_ ?_
      | refine LeO.bind ?_ (fun _ => ?_)
theorem knapsackref06_Apply.mono : ∀ a0 a1 a2 k, LeO (knapsackref06_Apply.f k a0 a1 a2) (knapsackref06_Apply.f (k + 1) a0 a1 a2) := by
  intro a0 a1 a2 k
  obtain ⟨ih0, ih1, ih2, ih3⟩ := knapsackref06_Apply.mono_l k
  unfold knapsackref06_Apply.f
  repeat' first
      | (with_reducible exact ih0 _ _ _ _ _)
      | (with_reducible exact ih1 _ _ _ _ _ _ _ _)
      | (with_reducible exact ih2 _ _ _ _ _ _ _ _ _)
      | (with_reducible exact ih3 _ _ _ _ _ _ _ _ _ _)
      | (with_reducible exact knapsackref01_Get.mono _ _)
      | (with_reducible exact LeO.refl _)
      | (with_reducible exact LeO.none _)
      | (with_reducible refine LeO.ite ?_ ?_)
      | (with_reducible refine LeO.bind ?_ (fun _ => ?_))
      | exact ih0 _ _ _ _ _
      | exact ih1 _ _ _ _ _ _ _ _
      | exact ih2 _ _ _ _ _ _ _ _ _
      | exact ih3 _ _ _ _ _ _ _ _ _ _
      | exact knapsackref01_Get.mono _ _
      | exact LeO.none _
      | refine LeO.ite ?_ ?_
      | refine LeO.bind ?_ (fun _ => ?_)
set_option maxHeartbeats 8000000 in
set_option maxRecDepth 100000 in
theorem knapsackref06_Apply.calls (k : Nat) (a0 : ByteArray) (a1 : ByteArray) (a2 : Int) (r1 : ByteArray) (r2 : Int) (w : World) (h : knapsackref06_Apply.f k a0 a1 a2 = some (r1, r2)) :
    Calls Try.prog 30 #[.string a0, .string a1, .int .i64 a2] w fun e w' => e = .returned (.tuple #[.string r1, .int .i64 r2]) ∧ Drawn0 w w' := by
  have H : (if a2 < 0 then (some ((⟨#[]⟩ : ByteArray), 1)) else ((knapsackref01_Get.f k a1).bind fun bt250 => (if bt250.2 = 0 then (some ((⟨#[]⟩ : ByteArray), 2)) else (if 0 ≤ bt250.2 then (if bt250.2 ≤ (a1.size : Int) then ((knapsackref01_Get.f k (a1.extract (bt250.2 : Int).toNat a1.size)).bind fun bt252 => (if bt252.2 = 0 then (some ((⟨#[]⟩ : ByteArray), 2)) else (if bt250.1 = (IntKind.u64.wrap ((a0.size : Int))) then (if bt252.1 > (IntKind.u64.wrap (a2)) then (some ((⟨#[]⟩ : ByteArray), 3)) else (knapsackref06_Apply.l0 k a0 a1 bt252.1 (⟨#[]⟩ : ByteArray) (wrap64 (bt250.2 + bt252.2)))) else (some ((⟨#[]⟩ : ByteArray), 6))))) else (none)) else (none))))) = some (r1, r2) := h
  clear h
  by_cases c4 : a2 < 0
  · rw [if_pos c4] at H
    have c4b0 : decide (a2 < 0) = true := decide_eq_true c4
    clear c4
    simp only [Option.some.injEq, Prod.mk.injEq] at H
    obtain ⟨rfl, rfl⟩ := H
    go_enter Try.func30, Try.ntmps30
    go_wp2
    go_ret2
    exact ⟨by first | rfl | (simp; done) | (simp; omega) | (simp [*]; done), by repeat (first | exact Drawn0.refl _ | apply Drawn0.step)⟩
  · rw [if_neg c4] at H
    have c4b0 : decide (a2 < 0) = false := decide_eq_false c4
    clear c4
    replace H := Option.bind_eq_some_iff.mp H
    obtain ⟨⟨t250, t251⟩, A50, H⟩ := H
    replace H : (if t251 = 0 then (some ((⟨#[]⟩ : ByteArray), 2)) else (if 0 ≤ t251 then (if t251 ≤ (a1.size : Int) then ((knapsackref01_Get.f k (a1.extract (t251 : Int).toNat a1.size)).bind fun bt252 => (if bt252.2 = 0 then (some ((⟨#[]⟩ : ByteArray), 2)) else (if t250 = (IntKind.u64.wrap ((a0.size : Int))) then (if bt252.1 > (IntKind.u64.wrap (a2)) then (some ((⟨#[]⟩ : ByteArray), 3)) else (knapsackref06_Apply.l0 k a0 a1 bt252.1 (⟨#[]⟩ : ByteArray) (wrap64 (t251 + bt252.2)))) else (some ((⟨#[]⟩ : ByteArray), 6))))) else (none)) else (none))) = some (r1, r2) := H
    have A5 := Aside0.mk A50
    clear A50
    by_cases c6 : t251 = 0
    · rw [if_pos c6] at H
      have c6b0 : (t251 == 0) = true := beq_iff_eq.mpr c6
      have c6b1 : (t251 != 0) = false := bne_eq_false_iff_eq.mpr c6
      clear c6
      simp only [Option.some.injEq, Prod.mk.injEq] at H
      obtain ⟨rfl, rfl⟩ := H
      go_enter Try.func30, Try.ntmps30
      go_wp2_with (first | ((with_reducible refine gate_callee (f := 24) rfl ?_); refine goesL_ (some 25) rfl rfl Try.func24 (by kernel_rfl) rfl #[.string a1] rfl (by (try simp only [List.map_toArray, List.map_cons, List.map_nil]); first | done | rfl | (simp only [List.length_drop, List.length_take]; rfl)) ?_; (with_reducible refine (knapsackref01_Get.calls k a1 t250 t251 _ A5.out).mono ?_); rintro e w' ⟨rfl, ⟨nd, rfl⟩⟩; refine ⟨_, rfl, ?_⟩))
      go_ret2
      exact ⟨by first | rfl | (simp; done) | (simp; omega) | (simp [*]; done), by repeat (first | exact Drawn0.refl _ | apply Drawn0.step)⟩
    · rw [if_neg c6] at H
      have c6b0 : (t251 == 0) = false := beq_eq_false_iff_ne.mpr c6
      have c6b1 : (t251 != 0) = true := bne_iff_ne.mpr c6
      by_cases c7 : 0 ≤ t251
      · rw [if_pos c7] at H
        have c7b0 := eq_true c7
        have c7b1 : decide (0 ≤ t251) = true := decide_eq_true c7
        clear c7
        by_cases c8 : t251 ≤ (a1.size : Int)
        · rw [if_pos c8] at H
          have c8b0 := eq_true c8
          have c8b1 : decide (t251 ≤ (a1.size : Int)) = true := decide_eq_true c8
          clear c8
          replace H := Option.bind_eq_some_iff.mp H
          obtain ⟨⟨t252, t253⟩, A90, H⟩ := H
          replace H : (if t253 = 0 then (some ((⟨#[]⟩ : ByteArray), 2)) else (if t250 = (IntKind.u64.wrap ((a0.size : Int))) then (if t252 > (IntKind.u64.wrap (a2)) then (some ((⟨#[]⟩ : ByteArray), 3)) else (knapsackref06_Apply.l0 k a0 a1 t252 (⟨#[]⟩ : ByteArray) (wrap64 (t251 + t253)))) else (some ((⟨#[]⟩ : ByteArray), 6)))) = some (r1, r2) := H
          have A9 := Aside0.mk A90
          clear A90
          by_cases c10 : t253 = 0
          · rw [if_pos c10] at H
            have c10b0 : (t253 == 0) = true := beq_iff_eq.mpr c10
            have c10b1 : (t253 != 0) = false := bne_eq_false_iff_eq.mpr c10
            clear c10
            simp only [Option.some.injEq, Prod.mk.injEq] at H
            obtain ⟨rfl, rfl⟩ := H
            go_enter Try.func30, Try.ntmps30
            go_wp2_with (first | ((with_reducible refine gate_callee (f := 24) rfl ?_); refine goesL_ (some 25) rfl rfl Try.func24 (by kernel_rfl) rfl #[.string a1] rfl (by (try simp only [List.map_toArray, List.map_cons, List.map_nil]); first | done | rfl | (simp only [List.length_drop, List.length_take]; rfl)) ?_; (with_reducible refine (knapsackref01_Get.calls k a1 t250 t251 _ A5.out).mono ?_); rintro e w' ⟨rfl, ⟨nd, rfl⟩⟩; refine ⟨_, rfl, ?_⟩) | ((with_reducible refine gate_callee (f := 24) rfl ?_); refine goesL_ (some 34) rfl rfl Try.func24 (by kernel_rfl) rfl #[.string (a1.extract (t251 : Int).toNat a1.size)] rfl (by (try simp only [List.map_toArray, List.map_cons, List.map_nil]); first | done | rfl | (simp only [List.length_drop, List.length_take]; rfl)) ?_; (with_reducible refine (knapsackref01_Get.calls k (a1.extract (t251 : Int).toNat a1.size) t252 t253 _ A9.out).mono ?_); rintro e w' ⟨rfl, ⟨nd, rfl⟩⟩; refine ⟨_, rfl, ?_⟩))
            go_ret2
            exact ⟨by first | rfl | (simp; done) | (simp; omega) | (simp [*]; done), by repeat (first | exact Drawn0.refl _ | apply Drawn0.step)⟩
          · rw [if_neg c10] at H
            have c10b0 : (t253 == 0) = false := beq_eq_false_iff_ne.mpr c10
            have c10b1 : (t253 != 0) = true := bne_iff_ne.mpr c10
            by_cases c11 : t250 = (IntKind.u64.wrap ((a0.size : Int)))
            · rw [if_pos c11] at H
              have c11b0 : (t250 == (IntKind.u64.wrap ((a0.size : Int)))) = true := beq_iff_eq.mpr c11
              have c11b1 : (t250 != (IntKind.u64.wrap ((a0.size : Int)))) = false := bne_eq_false_iff_eq.mpr c11
              clear c11
              by_cases c12 : t252 > (IntKind.u64.wrap (a2))
              · rw [if_pos c12] at H
                have c12b0 : decide ((IntKind.u64.wrap (a2)) < t252) = true := decide_eq_true c12
                clear c12
                simp only [Option.some.injEq, Prod.mk.injEq] at H
                obtain ⟨rfl, rfl⟩ := H
                go_enter Try.func30, Try.ntmps30
                go_wp2_with (first | ((with_reducible refine gate_callee (f := 24) rfl ?_); refine goesL_ (some 25) rfl rfl Try.func24 (by kernel_rfl) rfl #[.string a1] rfl (by (try simp only [List.map_toArray, List.map_cons, List.map_nil]); first | done | rfl | (simp only [List.length_drop, List.length_take]; rfl)) ?_; (with_reducible refine (knapsackref01_Get.calls k a1 t250 t251 _ A5.out).mono ?_); rintro e w' ⟨rfl, ⟨nd, rfl⟩⟩; refine ⟨_, rfl, ?_⟩) | ((with_reducible refine gate_callee (f := 24) rfl ?_); refine goesL_ (some 34) rfl rfl Try.func24 (by kernel_rfl) rfl #[.string (a1.extract (t251 : Int).toNat a1.size)] rfl (by (try simp only [List.map_toArray, List.map_cons, List.map_nil]); first | done | rfl | (simp only [List.length_drop, List.length_take]; rfl)) ?_; (with_reducible refine (knapsackref01_Get.calls k (a1.extract (t251 : Int).toNat a1.size) t252 t253 _ A9.out).mono ?_); rintro e w' ⟨rfl, ⟨nd, rfl⟩⟩; refine ⟨_, rfl, ?_⟩))
                go_ret2
                exact ⟨by first | rfl | (simp; done) | (simp; omega) | (simp [*]; done), by repeat (first | exact Drawn0.refl _ | apply Drawn0.step)⟩
              · rw [if_neg c12] at H
                have c12b0 : decide ((IntKind.u64.wrap (a2)) < t252) = false := decide_eq_false c12
                clear c12
                have H' := Aside0.mk H
                clear H
                go_enter Try.func30, Try.ntmps30
                go_wp2_with (first | ((with_reducible refine gate_callee (f := 24) rfl ?_); refine goesL_ (some 25) rfl rfl Try.func24 (by kernel_rfl) rfl #[.string a1] rfl (by (try simp only [List.map_toArray, List.map_cons, List.map_nil]); first | done | rfl | (simp only [List.length_drop, List.length_take]; rfl)) ?_; (with_reducible refine (knapsackref01_Get.calls k a1 t250 t251 _ A5.out).mono ?_); rintro e w' ⟨rfl, ⟨nd, rfl⟩⟩; refine ⟨_, rfl, ?_⟩) | ((with_reducible refine gate_callee (f := 24) rfl ?_); refine goesL_ (some 34) rfl rfl Try.func24 (by kernel_rfl) rfl #[.string (a1.extract (t251 : Int).toNat a1.size)] rfl (by (try simp only [List.map_toArray, List.map_cons, List.map_nil]); first | done | rfl | (simp only [List.length_drop, List.length_take]; rfl)) ?_; (with_reducible refine (knapsackref01_Get.calls k (a1.extract (t251 : Int).toNat a1.size) t252 t253 _ A9.out).mono ?_); rintro e w' ⟨rfl, ⟨nd, rfl⟩⟩; refine ⟨_, rfl, ?_⟩))
                go_loopg [12, 13] k (fun kq v12 v13 w' => ∃ (x12_1 : ByteArray) (x13_1 : Int), v12 = .string x12_1 ∧ v13 = .int .i64 x13_1 ∧ Aside0 (knapsackref06_Apply.l0 kq a0 a1 t252 x12_1 x13_1 = some (r1, r2)) ∧ Aside0 (kq ≤ k) ∧ Drawn0 w w')
                case atStart => exact ⟨((⟨#[]⟩ : ByteArray)), (wrap64 (t251 + t253)), (by first | rfl | (simp; done) | (simp; omega) | (simp [*]; done)), (by first | rfl | (simp; done) | (simp; omega) | (simp [*]; done)), H', ⟨Nat.le_refl _⟩, by repeat (first | exact Drawn0.refl _ | apply Drawn0.step)⟩
                case round =>
                  clear H'
                  try clear c1
                  try clear c2
                  try clear p2
                  try clear c3
                  try clear c4
                  try clear c4b0
                  try clear c6
                  try clear c6b0
                  try clear c6b1
                  try clear p6
                  try clear c7
                  try clear c7b0
                  try clear c7b1
                  try clear c8
                  try clear c8b0
                  try clear c8b1
                  try clear c10
                  try clear c10b0
                  try clear c10b1
                  try clear c11
                  try clear c11b0
                  try clear c11b1
                  try clear c12
                  try clear c12b0
                  obtain ⟨x12_1, x13_1, rfl, rfl, HA, HK1, ⟨m1, rfl⟩⟩ := hrel
                  cases gk with
                  | zero => exact absurd HA.out (by simp [knapsackref06_Apply.l0])
                  | succ k1 =>
                    have H := HA.out
                    clear HA
                    simp only [knapsackref06_Apply.l0] at H
                    by_cases c13 : x13_1 < (a1.size : Int)
                    · rw [if_pos c13] at H
                      have c13b0 : decide (x13_1 < (a1.size : Int)) = true := decide_eq_true c13
                      clear c13
                      by_cases c14 : 0 ≤ x13_1
                      · rw [if_pos c14] at H
                        have c14b0 := eq_true c14
                        have c14b1 : decide (0 ≤ x13_1) = true := decide_eq_true c14
                        clear c14
                        by_cases c15 : x13_1 ≤ (a1.size : Int)
                        · rw [if_pos c15] at H
                          have c15b0 := eq_true c15
                          have c15b1 : decide (x13_1 ≤ (a1.size : Int)) = true := decide_eq_true c15
                          clear c15
                          replace H := Option.bind_eq_some_iff.mp H
                          obtain ⟨⟨t254, t255⟩, A160, H⟩ := H
                          replace H : (if t255 = 0 then (knapsackref06_Apply.j1 k1 a0 a1 t252 x12_1 x13_1 t254 t255 true) else (knapsackref06_Apply.j1 k1 a0 a1 t252 x12_1 x13_1 t254 t255 (decide (t254 < 2)))) = some (r1, r2) := H
                          have A16 := Aside0.mk A160
                          clear A160
                          have HC17 := Aside0.mk H
                          clear H
                          go_upto_region 17 with (first | ((with_reducible refine gate_callee (f := 24) rfl ?_); refine goesL_ (some 59) rfl rfl Try.func24 (by kernel_rfl) rfl #[.string (a1.extract (x13_1 : Int).toNat a1.size)] rfl (by (try simp only [List.map_toArray, List.map_cons, List.map_nil]); first | done | rfl | (simp only [List.length_drop, List.length_take]; rfl)) ?_; (with_reducible refine (knapsackref01_Get.calls k1 (a1.extract (x13_1 : Int).toNat a1.size) t254 t255 _ A16.out).mono ?_); rintro e w' ⟨rfl, ⟨nd, rfl⟩⟩; refine ⟨_, rfl, ?_⟩))
                          (try simp only [Act.put, List.setIfInBounds_toArray, List.set_cons_zero, List.set_cons_succ])
                          go_cut [67] (fun v67 wc => ∃ (kq : Nat) (x67_16 : Bool), v67 = .bool x67_16 ∧ Aside0 (knapsackref06_Apply.j1 kq a0 a1 t252 x12_1 x13_1 t254 t255 x67_16 = some (r1, r2)) ∧ Aside0 (kq ≤ k1) ∧ Drawn0 w wc)
                          case first =>
                            have H := HC17.out
                            clear HC17
                            by_cases c18 : t255 = 0
                            · rw [if_pos c18] at H
                              have c18b0 : (t255 == 0) = true := beq_iff_eq.mpr c18
                              have c18b1 : (t255 != 0) = false := bne_eq_false_iff_eq.mpr c18
                              clear c18
                              (first | rw [c18b0] | (simp only [i64_w, i32_w]; rw [c18b0]) | skip)
                              have H' := Aside0.mk H
                              clear H
                              go_wp2
                              go_meet
                              case rel => exact ⟨_, (true), (by first | rfl | (simp; done) | (simp; omega) | (simp [*]; done)), H', ⟨by have := HK1.out; first | omega | exact Nat.le_refl _⟩, by repeat (first | exact Drawn0.refl _ | apply Drawn0.step)⟩
                            · rw [if_neg c18] at H
                              have c18b0 : (t255 == 0) = false := beq_eq_false_iff_ne.mpr c18
                              have c18b1 : (t255 != 0) = true := bne_iff_ne.mpr c18
                              (first | rw [c18b0] | (simp only [i64_w, i32_w]; rw [c18b0]) | skip)
                              have H' := Aside0.mk H
                              clear H
                              go_wp2
                              go_meet
                              case rel => exact ⟨_, (decide (t254 < 2)), (by first | rfl | (simp; done) | (simp; omega) | (simp [*]; done)), H', ⟨by have := HK1.out; first | omega | exact Nat.le_refl _⟩, by repeat (first | exact Drawn0.refl _ | apply Drawn0.step)⟩
                          case rest =>
                            clear HC17
                            try clear c1
                            try clear c2
                            try clear p2
                            try clear c3
                            try clear c4
                            try clear c4b0
                            try clear c6
                            try clear c6b0
                            try clear c6b1
                            try clear p6
                            try clear c7
                            try clear c7b0
                            try clear c7b1
                            try clear c8
                            try clear c8b0
                            try clear c8b1
                            try clear c10
                            try clear c10b0
                            try clear c10b1
                            try clear c11
                            try clear c11b0
                            try clear c11b1
                            try clear c12
                            try clear c12b0
                            try clear c13
                            try clear c13b0
                            try clear c14
                            try clear c14b0
                            try clear c14b1
                            try clear c15
                            try clear c15b0
                            try clear c15b1
                            try clear c18
                            try clear c18b0
                            try clear c18b1
                            try clear p2
                            try clear p6
                            obtain ⟨kq, x67_16, rfl, HA, HJ16, ⟨mc16, rfl⟩⟩ := hcut
                            cases kq with
                            | zero => exact absurd HA.out (by simp [knapsackref06_Apply.j1])
                            | succ kj16 =>
                              have H := HA.out
                              clear HA
                              simp only [knapsackref06_Apply.j1] at H
                              by_cases c19 : x67_16 = true
                              · subst c19
                                have H1 : (some ((⟨#[]⟩ : ByteArray), 2)) = some (r1, r2) := by rw [if_pos rfl] at H; exact H
                                clear H
                                have H := H1
                                clear H1
                                simp only [Option.some.injEq, Prod.mk.injEq] at H
                                obtain ⟨rfl, rfl⟩ := H
                                go_wp2
                                go_ret2
                                exact ⟨by first | rfl | (simp; done) | (simp; omega) | (simp [*]; done), by repeat (first | exact Drawn0.refl _ | apply Drawn0.step)⟩
                              · replace c19 := Bool.eq_false_iff.mpr c19
                                subst c19
                                have H1 : (if (Int.tmod t254 2) = 0 then (if 0 ≤ (wrap64 (x13_1 + t255)) then (if (wrap64 (x13_1 + t255)) ≤ (a1.size : Int) then (knapsackref06_Apply.j2 kj16 a0 a1 t252 x12_1 (wrap64 (x13_1 + t255)) t254 (IntKind.u64.wrap (Int.tdiv t254 2)) (a1.extract ((wrap64 (x13_1 + t255)) : Int).toNat a1.size) 0) else (none)) else (none)) else (if 0 ≤ (wrap64 (x13_1 + t255)) then (if (wrap64 (x13_1 + t255)) ≤ (a1.size : Int) then ((knapsackref01_Get.f kj16 (a1.extract ((wrap64 (x13_1 + t255)) : Int).toNat a1.size)).bind fun bt256 => (if bt256.2 = 0 then (some ((⟨#[]⟩ : ByteArray), 2)) else (knapsackref06_Apply.j2 kj16 a0 a1 t252 x12_1 (wrap64 ((wrap64 (x13_1 + t255)) + bt256.2)) t254 (IntKind.u64.wrap (Int.tdiv t254 2)) a0 bt256.1))) else (none)) else (none))) = some (r1, r2) := by rw [if_neg (show ¬ (false = true) by decide)] at H; exact H
                                clear H
                                have H := H1
                                clear H1
                                have HC20 := Aside0.mk H
                                clear H
                                go_upto_if 76 with (fail)
                                go_cut [13, 17, 18] (fun v13 v17 v18 wc => ∃ (kq : Nat) (x13_19 : Int) (x17_19 : ByteArray) (x18_19 : Int), v13 = .int .i64 x13_19 ∧ v17 = .string x17_19 ∧ v18 = .int .u64 x18_19 ∧ Aside0 (knapsackref06_Apply.j2 kq a0 a1 t252 x12_1 x13_19 t254 (IntKind.u64.wrap (Int.tdiv t254 2)) x17_19 x18_19 = some (r1, r2)) ∧ Aside0 (kq ≤ kj16) ∧ Drawn0 w wc)
                                case first =>
                                  have H := HC20.out
                                  clear HC20
                                  by_cases c21 : (Int.tmod t254 2) = 0
                                  · rw [if_pos c21] at H
                                    have c21b0 : ((Int.tmod t254 2) == 0) = true := beq_iff_eq.mpr c21
                                    have c21b1 : ((Int.tmod t254 2) != 0) = false := bne_eq_false_iff_eq.mpr c21
                                    clear c21
                                    (first | rw [c21b0] | (simp only [i64_w, i32_w]; rw [c21b0]) | skip)
                                    obtain ⟨ji22, hji22⟩ : ∃ j_ : Int, (wrap64 (x13_1 + t255)) = j_ := ⟨_, rfl⟩
                                    replace H : (if 0 ≤ (ji22) then (if (ji22) ≤ (a1.size : Int) then (knapsackref06_Apply.j2 kj16 a0 a1 t252 x12_1 ji22 t254 (IntKind.u64.wrap (Int.tdiv t254 2)) (a1.extract ((ji22) : Int).toNat a1.size) 0) else (none)) else (none)) = some (r1, r2) := by first | (rw [hji22] at H; exact H) | (simp only [hji22] at H ⊢; exact H)
                                    have hji22w : (IntKind.i64.wrap (x13_1 + t255)) = ji22 := (i64_w _).trans hji22
                                    by_cases c23 : 0 ≤ (ji22)
                                    · rw [if_pos c23] at H
                                      have c23b0 := eq_true c23
                                      have c23b1 : decide (0 ≤ (ji22)) = true := decide_eq_true c23
                                      clear c23
                                      by_cases c24 : (ji22) ≤ (a1.size : Int)
                                      · rw [if_pos c24] at H
                                        have c24b0 := eq_true c24
                                        have c24b1 : decide ((ji22) ≤ (a1.size : Int)) = true := decide_eq_true c24
                                        clear c24
                                        have H' := Aside0.mk H
                                        clear H
                                        go_wp2
                                        go_meet
                                        case rel => exact ⟨_, (ji22), (a1.extract ((ji22) : Int).toNat a1.size), (0), (by first | rfl | (simp; done) | (simp only [← hji22] <;> (first | rfl | simp)) | (simp [*]; done)), (by first | rfl | (simp; done) | (simp only [← hji22] <;> (first | rfl | simp)) | (simp [*]; done)), (by first | rfl | (simp; done) | (simp; omega) | (simp [*]; done)), H', ⟨by have := HK1.out; have := HJ16.out; first | omega | exact Nat.le_refl _⟩, by repeat (first | exact Drawn0.refl _ | apply Drawn0.step)⟩
                                      · rw [if_neg c24] at H
                                        exact absurd H (by simp)
                                    · rw [if_neg c23] at H
                                      exact absurd H (by simp)
                                  · rw [if_neg c21] at H
                                    have c21b0 : ((Int.tmod t254 2) == 0) = false := beq_eq_false_iff_ne.mpr c21
                                    have c21b1 : ((Int.tmod t254 2) != 0) = true := bne_iff_ne.mpr c21
                                    (first | rw [c21b0] | (simp only [i64_w, i32_w]; rw [c21b0]) | skip)
                                    obtain ⟨ji25, hji25⟩ : ∃ j_ : Int, (wrap64 (x13_1 + t255)) = j_ := ⟨_, rfl⟩
                                    replace H : (if 0 ≤ (ji25) then (if (ji25) ≤ (a1.size : Int) then ((knapsackref01_Get.f kj16 (a1.extract ((ji25) : Int).toNat a1.size)).bind fun bt256 => (if bt256.2 = 0 then (some ((⟨#[]⟩ : ByteArray), 2)) else (knapsackref06_Apply.j2 kj16 a0 a1 t252 x12_1 (wrap64 ((ji25) + bt256.2)) t254 (IntKind.u64.wrap (Int.tdiv t254 2)) a0 bt256.1))) else (none)) else (none)) = some (r1, r2) := by first | (rw [hji25] at H; exact H) | (simp only [hji25] at H ⊢; exact H)
                                    have hji25w : (IntKind.i64.wrap (x13_1 + t255)) = ji25 := (i64_w _).trans hji25
                                    by_cases c26 : 0 ≤ (ji25)
                                    · rw [if_pos c26] at H
                                      have c26b0 := eq_true c26
                                      have c26b1 : decide (0 ≤ (ji25)) = true := decide_eq_true c26
                                      clear c26
                                      by_cases c27 : (ji25) ≤ (a1.size : Int)
                                      · rw [if_pos c27] at H
                                        have c27b0 := eq_true c27
                                        have c27b1 : decide ((ji25) ≤ (a1.size : Int)) = true := decide_eq_true c27
                                        clear c27
                                        replace H := Option.bind_eq_some_iff.mp H
                                        obtain ⟨⟨t256, t257⟩, A280, H⟩ := H
                                        replace H : (if t257 = 0 then (some ((⟨#[]⟩ : ByteArray), 2)) else (knapsackref06_Apply.j2 kj16 a0 a1 t252 x12_1 (wrap64 ((ji25) + t257)) t254 (IntKind.u64.wrap (Int.tdiv t254 2)) a0 t256)) = some (r1, r2) := H
                                        have A28 := Aside0.mk A280
                                        clear A280
                                        by_cases c29 : t257 = 0
                                        · rw [if_pos c29] at H
                                          have c29b0 : (t257 == 0) = true := beq_iff_eq.mpr c29
                                          have c29b1 : (t257 != 0) = false := bne_eq_false_iff_eq.mpr c29
                                          clear c29
                                          simp only [Option.some.injEq, Prod.mk.injEq] at H
                                          obtain ⟨rfl, rfl⟩ := H
                                          go_wp2_with (first | ((with_reducible refine gate_callee (f := 24) rfl ?_); refine goesL_ (some 84) rfl rfl Try.func24 (by kernel_rfl) rfl #[.string (a1.extract ((ji25) : Int).toNat a1.size)] rfl (by (try simp only [List.map_toArray, List.map_cons, List.map_nil]); first | done | (simp only [hji25]; rfl) | rfl | (simp only [List.length_drop, List.length_take]; rfl)) ?_; (with_reducible refine (knapsackref01_Get.calls kj16 (a1.extract ((ji25) : Int).toNat a1.size) t256 t257 _ A28.out).mono ?_); rintro e w' ⟨rfl, ⟨nd, rfl⟩⟩; refine ⟨_, rfl, ?_⟩))
                                          go_ret2
                                          exact ⟨by first | rfl | (simp; done) | (simp only [← hji25] <;> (first | rfl | simp)) | (simp [*]; done), by repeat (first | exact Drawn0.refl _ | apply Drawn0.step)⟩
                                        · rw [if_neg c29] at H
                                          have c29b0 : (t257 == 0) = false := beq_eq_false_iff_ne.mpr c29
                                          have c29b1 : (t257 != 0) = true := bne_iff_ne.mpr c29
                                          have H' := Aside0.mk H
                                          clear H
                                          go_wp2_with (first | ((with_reducible refine gate_callee (f := 24) rfl ?_); refine goesL_ (some 84) rfl rfl Try.func24 (by kernel_rfl) rfl #[.string (a1.extract ((ji25) : Int).toNat a1.size)] rfl (by (try simp only [List.map_toArray, List.map_cons, List.map_nil]); first | done | (simp only [hji25]; rfl) | rfl | (simp only [List.length_drop, List.length_take]; rfl)) ?_; (with_reducible refine (knapsackref01_Get.calls kj16 (a1.extract ((ji25) : Int).toNat a1.size) t256 t257 _ A28.out).mono ?_); rintro e w' ⟨rfl, ⟨nd, rfl⟩⟩; refine ⟨_, rfl, ?_⟩))
                                          go_meet
                                          case rel => exact ⟨_, (wrap64 ((ji25) + t257)), (a0), (t256), (by first | rfl | (simp; done) | (simp only [← hji25] <;> (first | rfl | simp)) | (simp [*]; done)), (by first | rfl | (simp; done) | (simp; omega) | (simp [*]; done)), (by first | rfl | (simp; done) | (simp; omega) | (simp [*]; done)), H', ⟨by have := HK1.out; have := HJ16.out; first | omega | exact Nat.le_refl _⟩, by repeat (first | exact Drawn0.refl _ | apply Drawn0.step)⟩
                                      · rw [if_neg c27] at H
                                        exact absurd H (by simp)
                                    · rw [if_neg c26] at H
                                      exact absurd H (by simp)
                                case rest =>
                                  clear HC20
                                  try clear c1
                                  try clear c2
                                  try clear p2
                                  try clear c3
                                  try clear c4
                                  try clear c4b0
                                  try clear c6
                                  try clear c6b0
                                  try clear c6b1
                                  try clear p6
                                  try clear c7
                                  try clear c7b0
                                  try clear c7b1
                                  try clear c8
                                  try clear c8b0
                                  try clear c8b1
                                  try clear c10
                                  try clear c10b0
                                  try clear c10b1
                                  try clear c11
                                  try clear c11b0
                                  try clear c11b1
                                  try clear c12
                                  try clear c12b0
                                  try clear c13
                                  try clear c13b0
                                  try clear c14
                                  try clear c14b0
                                  try clear c14b1
                                  try clear c15
                                  try clear c15b0
                                  try clear c15b1
                                  try clear c16
                                  try clear c18
                                  try clear c18b0
                                  try clear c18b1
                                  try clear c19
                                  try clear c21
                                  try clear c21b0
                                  try clear c21b1
                                  try clear c23
                                  try clear c23b0
                                  try clear c23b1
                                  try clear c24
                                  try clear c24b0
                                  try clear c24b1
                                  try clear c26
                                  try clear c26b0
                                  try clear c26b1
                                  try clear c27
                                  try clear c27b0
                                  try clear c27b1
                                  try clear c29
                                  try clear c29b0
                                  try clear c29b1
                                  try clear p2
                                  try clear p6
                                  obtain ⟨kq, x13_19, x17_19, x18_19, rfl, rfl, rfl, HA, HJ19, ⟨mc19, rfl⟩⟩ := hcut
                                  cases kq with
                                  | zero => exact absurd HA.out (by simp [knapsackref06_Apply.j2])
                                  | succ kj19 =>
                                    have H := HA.out
                                    clear HA
                                    simp only [knapsackref06_Apply.j2] at H
                                    have HC30 := Aside0.mk H
                                    clear H
                                    go_upto_region 30 with (fail)
                                    go_cut [115] (fun v115 wc => ∃ (kq : Nat) (x115_29 : Bool), v115 = .bool x115_29 ∧ Aside0 (knapsackref06_Apply.j3 kq a0 a1 t252 x12_1 x13_19 t254 (IntKind.u64.wrap (Int.tdiv t254 2)) x17_19 x18_19 x115_29 = some (r1, r2)) ∧ Aside0 (kq ≤ kj19) ∧ Drawn0 w wc)
                                    case first =>
                                      have H := HC30.out
                                      clear HC30
                                      by_cases c31 : x18_19 > (IntKind.u64.wrap ((x17_19.size : Int)))
                                      · rw [if_pos c31] at H
                                        have c31b0 : decide ((IntKind.u64.wrap ((x17_19.size : Int))) < x18_19) = true := decide_eq_true c31
                                        clear c31
                                        (first | rw [c31b0] | (simp only [i64_w, i32_w]; rw [c31b0]) | skip)
                                        have H' := Aside0.mk H
                                        clear H
                                        go_wp2
                                        go_meet
                                        case rel => exact ⟨_, (true), (by first | rfl | (simp; done) | (simp; omega) | (simp [*]; done)), H', ⟨by have := HK1.out; have := HJ16.out; have := HJ19.out; first | omega | exact Nat.le_refl _⟩, by repeat (first | exact Drawn0.refl _ | apply Drawn0.step)⟩
                                      · rw [if_neg c31] at H
                                        have c31b0 : decide ((IntKind.u64.wrap ((x17_19.size : Int))) < x18_19) = false := decide_eq_false c31
                                        clear c31
                                        (first | rw [c31b0] | (simp only [i64_w, i32_w]; rw [c31b0]) | skip)
                                        by_cases c32 : (IntKind.u64.wrap (Int.tdiv t254 2)) > (IntKind.u64.wrap ((IntKind.u64.wrap ((x17_19.size : Int))) - x18_19))
                                        · rw [if_pos c32] at H
                                          have c32b0 : decide ((IntKind.u64.wrap ((IntKind.u64.wrap ((x17_19.size : Int))) - x18_19)) < (IntKind.u64.wrap (Int.tdiv t254 2))) = true := decide_eq_true c32
                                          clear c32
                                          have H' := Aside0.mk H
                                          clear H
                                          go_wp2
                                          go_meet
                                          case rel => exact ⟨_, (true), (by first | rfl | (simp; done) | (simp; omega) | (simp [*]; done)), H', ⟨by have := HK1.out; have := HJ16.out; have := HJ19.out; first | omega | exact Nat.le_refl _⟩, by repeat (first | exact Drawn0.refl _ | apply Drawn0.step)⟩
                                        · rw [if_neg c32] at H
                                          have c32b0 : decide ((IntKind.u64.wrap ((IntKind.u64.wrap ((x17_19.size : Int))) - x18_19)) < (IntKind.u64.wrap (Int.tdiv t254 2))) = false := decide_eq_false c32
                                          clear c32
                                          have H' := Aside0.mk H
                                          clear H
                                          go_wp2
                                          go_meet
                                          case rel => exact ⟨_, (decide ((IntKind.u64.wrap (Int.tdiv t254 2)) > (IntKind.u64.wrap (t252 - (IntKind.u64.wrap ((x12_1.size : Int))))))), (by first | rfl | (simp; done) | (simp; omega) | (simp [*]; done)), H', ⟨by have := HK1.out; have := HJ16.out; have := HJ19.out; first | omega | exact Nat.le_refl _⟩, by repeat (first | exact Drawn0.refl _ | apply Drawn0.step)⟩
                                    case rest =>
                                      clear HC30
                                      try clear c1
                                      try clear c2
                                      try clear p2
                                      try clear c3
                                      try clear c4
                                      try clear c4b0
                                      try clear c6
                                      try clear c6b0
                                      try clear c6b1
                                      try clear p6
                                      try clear c7
                                      try clear c7b0
                                      try clear c7b1
                                      try clear c8
                                      try clear c8b0
                                      try clear c8b1
                                      try clear c10
                                      try clear c10b0
                                      try clear c10b1
                                      try clear c11
                                      try clear c11b0
                                      try clear c11b1
                                      try clear c12
                                      try clear c12b0
                                      try clear c13
                                      try clear c13b0
                                      try clear c14
                                      try clear c14b0
                                      try clear c14b1
                                      try clear c15
                                      try clear c15b0
                                      try clear c15b1
                                      try clear c16
                                      try clear c18
                                      try clear c18b0
                                      try clear c18b1
                                      try clear c19
                                      try clear c21
                                      try clear c21b0
                                      try clear c21b1
                                      try clear c23
                                      try clear c23b0
                                      try clear c23b1
                                      try clear c24
                                      try clear c24b0
                                      try clear c24b1
                                      try clear c26
                                      try clear c26b0
                                      try clear c26b1
                                      try clear c27
                                      try clear c27b0
                                      try clear c27b1
                                      try clear c29
                                      try clear c29b0
                                      try clear c29b1
                                      try clear c30
                                      try clear c31
                                      try clear c31b0
                                      try clear c32
                                      try clear c32b0
                                      try clear p2
                                      try clear p6
                                      obtain ⟨kq, x115_29, rfl, HA, HJ29, ⟨mc29, rfl⟩⟩ := hcut
                                      cases kq with
                                      | zero => exact absurd HA.out (by simp [knapsackref06_Apply.j3])
                                      | succ kj29 =>
                                        have H := HA.out
                                        clear HA
                                        simp only [knapsackref06_Apply.j3] at H
                                        by_cases c33 : x115_29 = true
                                        · subst c33
                                          have H1 : (some ((⟨#[]⟩ : ByteArray), 2)) = some (r1, r2) := by rw [if_pos rfl] at H; exact H
                                          clear H
                                          have H := H1
                                          clear H1
                                          simp only [Option.some.injEq, Prod.mk.injEq] at H
                                          obtain ⟨rfl, rfl⟩ := H
                                          go_wp2
                                          go_ret2
                                          exact ⟨by first | rfl | (simp; done) | (simp; omega) | (simp [*]; done), by repeat (first | exact Drawn0.refl _ | apply Drawn0.step)⟩
                                        · replace c33 := Bool.eq_false_iff.mpr c33
                                          subst c33
                                          have H1 : (if 0 ≤ x18_19 then (if x18_19 ≤ (IntKind.u64.wrap (x18_19 + (IntKind.u64.wrap (Int.tdiv t254 2)))) then (if (IntKind.u64.wrap (x18_19 + (IntKind.u64.wrap (Int.tdiv t254 2)))) ≤ (x17_19.size : Int) then (if x12_1.size + (x17_19.extract (x18_19 : Int).toNat ((IntKind.u64.wrap (x18_19 + (IntKind.u64.wrap (Int.tdiv t254 2)))) : Int).toNat).size ≤ 9223372036854775807 then (if (Int.tmod t254 2) = 0 then (knapsackref06_Apply.l0 kj29 a0 a1 t252 (x12_1 ++ (x17_19.extract (x18_19 : Int).toNat ((IntKind.u64.wrap (x18_19 + (IntKind.u64.wrap (Int.tdiv t254 2)))) : Int).toNat)) (wrap64 (x13_19 + (wrap64 ((IntKind.u64.wrap (Int.tdiv t254 2))))))) else (knapsackref06_Apply.l0 kj29 a0 a1 t252 (x12_1 ++ (x17_19.extract (x18_19 : Int).toNat ((IntKind.u64.wrap (x18_19 + (IntKind.u64.wrap (Int.tdiv t254 2)))) : Int).toNat)) x13_19)) else (none)) else (none)) else (none)) else (none)) = some (r1, r2) := by rw [if_neg (show ¬ (false = true) by decide)] at H; exact H
                                          clear H
                                          have H := H1
                                          clear H1
                                          by_cases c34 : 0 ≤ x18_19
                                          · rw [if_pos c34] at H
                                            have c34b0 := eq_true c34
                                            have c34b1 : decide (0 ≤ x18_19) = true := decide_eq_true c34
                                            clear c34
                                            by_cases c35 : x18_19 ≤ (IntKind.u64.wrap (x18_19 + (IntKind.u64.wrap (Int.tdiv t254 2))))
                                            · rw [if_pos c35] at H
                                              have c35b0 := eq_true c35
                                              have c35b1 : decide (x18_19 ≤ (IntKind.u64.wrap (x18_19 + (IntKind.u64.wrap (Int.tdiv t254 2))))) = true := decide_eq_true c35
                                              by_cases c36 : (IntKind.u64.wrap (x18_19 + (IntKind.u64.wrap (Int.tdiv t254 2)))) ≤ (x17_19.size : Int)
                                              · rw [if_pos c36] at H
                                                have c36b0 := eq_true c36
                                                have c36b1 : decide ((IntKind.u64.wrap (x18_19 + (IntKind.u64.wrap (Int.tdiv t254 2)))) ≤ (x17_19.size : Int)) = true := decide_eq_true c36
                                                by_cases c37 : x12_1.size + (x17_19.extract (x18_19 : Int).toNat ((IntKind.u64.wrap (x18_19 + (IntKind.u64.wrap (Int.tdiv t254 2)))) : Int).toNat).size ≤ 9223372036854775807
                                                · rw [if_pos c37] at H
                                                  have c37b1 : decide (x12_1.size + (x17_19.extract (x18_19 : Int).toNat ((IntKind.u64.wrap (x18_19 + (IntKind.u64.wrap (Int.tdiv t254 2)))) : Int).toNat).size ≤ 9223372036854775807) = true := decide_eq_true c37
                                                  try have c37b2 : (9223372036854775807 < x12_1.size + (x17_19.extract (x18_19 : Int).toNat ((IntKind.u64.wrap (x18_19 + (IntKind.u64.wrap (Int.tdiv t254 2)))) : Int).toNat).size) = False := eq_false (Nat.not_lt.2 c37)
                                                  (try have c37le0 : ((IntKind.u64.wrap (x18_19 + (IntKind.u64.wrap (Int.tdiv t254 2)))) : Int).toNat ≤ x17_19.size := by (have h_ : (((IntKind.u64.wrap (x18_19 + (IntKind.u64.wrap (Int.tdiv t254 2)))) : Int) ≤ (x17_19.size : Int)) := (by first | exact of_eq_true (by with_reducible assumption) | exact of_decide_eq_true (by with_reducible assumption) | assumption)); omega)
                                                  (try have c37nb2 := c37b2)
                                                  (first | simp only [ByteArray.size_append, ByteArray.size_extract, Nat.sub_zero, Nat.min_self, Int.natCast_add, Nat.min_eq_left c37le0] at c37nb2 | clear c37nb2 | skip)
                                                  (try clear c37le0)
                                                  clear c37
                                                  by_cases c38 : (Int.tmod t254 2) = 0
                                                  · rw [if_pos c38] at H
                                                    have c38b0 : ((Int.tmod t254 2) == 0) = true := beq_iff_eq.mpr c38
                                                    have c38b1 : ((Int.tmod t254 2) != 0) = false := bne_eq_false_iff_eq.mpr c38
                                                    clear c38
                                                    have H' := Aside0.mk H
                                                    clear H
                                                    go_wp2
                                                    go_roundg kj29
                                                    case measure => have := HK1.out; have := HJ16.out; have := HJ19.out; have := HJ29.out; omega
                                                    case rel => exact ⟨(x12_1 ++ (x17_19.extract (x18_19 : Int).toNat ((IntKind.u64.wrap (x18_19 + (IntKind.u64.wrap (Int.tdiv t254 2)))) : Int).toNat)), (wrap64 (x13_19 + (wrap64 ((IntKind.u64.wrap (Int.tdiv t254 2)))))), (by first | rfl | (simp; done) | (simp; omega) | (simp [*]; done)), (by first | rfl | (simp; done) | (simp; omega) | (simp [*]; done)), H', ⟨by have := HK1.out; have := HJ16.out; have := HJ19.out; have := HJ29.out; omega⟩, by repeat (first | exact Drawn0.refl _ | apply Drawn0.step)⟩
                                                  · rw [if_neg c38] at H
                                                    have c38b0 : ((Int.tmod t254 2) == 0) = false := beq_eq_false_iff_ne.mpr c38
                                                    have c38b1 : ((Int.tmod t254 2) != 0) = true := bne_iff_ne.mpr c38
                                                    have H' := Aside0.mk H
                                                    clear H
                                                    go_wp2
                                                    go_roundg kj29
                                                    case measure => have := HK1.out; have := HJ16.out; have := HJ19.out; have := HJ29.out; omega
                                                    case rel => exact ⟨(x12_1 ++ (x17_19.extract (x18_19 : Int).toNat ((IntKind.u64.wrap (x18_19 + (IntKind.u64.wrap (Int.tdiv t254 2)))) : Int).toNat)), (x13_19), (by first | rfl | (simp; done) | (simp; omega) | (simp [*]; done)), (by first | rfl | (simp; done) | (simp; omega) | (simp [*]; done)), H', ⟨by have := HK1.out; have := HJ16.out; have := HJ19.out; have := HJ29.out; omega⟩, by repeat (first | exact Drawn0.refl _ | apply Drawn0.step)⟩
                                                · rw [if_neg c37] at H
                                                  exact absurd H (by simp)
                                              · rw [if_neg c36] at H
                                                exact absurd H (by simp)
                                            · rw [if_neg c35] at H
                                              exact absurd H (by simp)
                                          · rw [if_neg c34] at H
                                            exact absurd H (by simp)
                        · rw [if_neg c15] at H
                          exact absurd H (by simp)
                      · rw [if_neg c14] at H
                        exact absurd H (by simp)
                    · rw [if_neg c13] at H
                      have c13b0 : decide (x13_1 < (a1.size : Int)) = false := decide_eq_false c13
                      clear c13
                      by_cases c39 : (IntKind.u64.wrap ((x12_1.size : Int))) = t252
                      · rw [if_pos c39] at H
                        have c39b0 : ((IntKind.u64.wrap ((x12_1.size : Int))) == t252) = true := beq_iff_eq.mpr c39
                        have c39b1 : ((IntKind.u64.wrap ((x12_1.size : Int))) != t252) = false := bne_eq_false_iff_eq.mpr c39
                        clear c39
                        simp only [Option.some.injEq, Prod.mk.injEq] at H
                        obtain ⟨rfl, rfl⟩ := H
                        go_wp2
                        go_ret2
                        exact ⟨by first | rfl | (simp; done) | (simp; omega) | (simp [*]; done), by repeat (first | exact Drawn0.refl _ | apply Drawn0.step)⟩
                      · rw [if_neg c39] at H
                        have c39b0 : ((IntKind.u64.wrap ((x12_1.size : Int))) == t252) = false := beq_eq_false_iff_ne.mpr c39
                        have c39b1 : ((IntKind.u64.wrap ((x12_1.size : Int))) != t252) = true := bne_iff_ne.mpr c39
                        simp only [Option.some.injEq, Prod.mk.injEq] at H
                        obtain ⟨rfl, rfl⟩ := H
                        go_wp2
                        go_ret2
                        exact ⟨by first | rfl | (simp; done) | (simp; omega) | (simp [*]; done), by repeat (first | exact Drawn0.refl _ | apply Drawn0.step)⟩
            · rw [if_neg c11] at H
              have c11b0 : (t250 == (IntKind.u64.wrap ((a0.size : Int)))) = false := beq_eq_false_iff_ne.mpr c11
              have c11b1 : (t250 != (IntKind.u64.wrap ((a0.size : Int)))) = true := bne_iff_ne.mpr c11
              simp only [Option.some.injEq, Prod.mk.injEq] at H
              obtain ⟨rfl, rfl⟩ := H
              go_enter Try.func30, Try.ntmps30
              go_wp2_with (first | ((with_reducible refine gate_callee (f := 24) rfl ?_); refine goesL_ (some 25) rfl rfl Try.func24 (by kernel_rfl) rfl #[.string a1] rfl (by (try simp only [List.map_toArray, List.map_cons, List.map_nil]); first | done | rfl | (simp only [List.length_drop, List.length_take]; rfl)) ?_; (with_reducible refine (knapsackref01_Get.calls k a1 t250 t251 _ A5.out).mono ?_); rintro e w' ⟨rfl, ⟨nd, rfl⟩⟩; refine ⟨_, rfl, ?_⟩) | ((with_reducible refine gate_callee (f := 24) rfl ?_); refine goesL_ (some 34) rfl rfl Try.func24 (by kernel_rfl) rfl #[.string (a1.extract (t251 : Int).toNat a1.size)] rfl (by (try simp only [List.map_toArray, List.map_cons, List.map_nil]); first | done | rfl | (simp only [List.length_drop, List.length_take]; rfl)) ?_; (with_reducible refine (knapsackref01_Get.calls k (a1.extract (t251 : Int).toNat a1.size) t252 t253 _ A9.out).mono ?_); rintro e w' ⟨rfl, ⟨nd, rfl⟩⟩; refine ⟨_, rfl, ?_⟩))
              go_ret2
              exact ⟨by first | rfl | (simp; done) | (simp; omega) | (simp [*]; done), by repeat (first | exact Drawn0.refl _ | apply Drawn0.step)⟩
        · rw [if_neg c8] at H
          exact absurd H (by simp)
      · rw [if_neg c7] at H
        exact absurd H (by simp)

end Go.Proofs.Ytnmnplbjhejejaa.PA
