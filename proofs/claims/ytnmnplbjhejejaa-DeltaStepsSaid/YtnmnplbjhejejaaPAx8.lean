-- Written by a turned copy of the printer (wip/patchprint.py of this repo), with contracts of this session beside; Lean checks it.
import Derived.Test.YtnmnplbjhejejaaPAx0
import Derived.Test.YtnmnplbjhejejaaPAx5
import Derived.Test.YtnmnplbjhejejaaPAx6
import Derived.Test.YtnmnplbjhejejaaPAx7
namespace Go.Proofs.Ytnmnplbjhejejaa.PA
open Go.RowKit Go.Proofs.YtnmnplbjhejejaaW.PrintWords Go.Proofs.YtnmnplbjhejejaaW.PrintLast Go.Proofs.YtnmnplbjhejejaaW.PrintMore
attribute [local go_sem] max2_int min2_int max_two min_two max_three min_three max_four min_four   -- for this text's walks alone
set_option linter.unusedVariables false
set_option linter.unusedSimpArgs false

/-! ### knapsacklaw01_VarintBack: function 6 -/
mutual
def knapsacklaw01_VarintBack.j0 : Nat → ByteArray → Bool → Option (Bool)
  | 0, _, _ => none
  | k + 1, x2, x62 => if x62 = true then (some false) else ((varint_Get.f k x2).bind fun bt208 => (if bt208.2.2 = 0 then ((varint_Put.f k bt208.1).bind fun t211 => (if t211.size + bt208.2.1.size ≤ 9223372036854775807 then (knapsacklaw01_VarintBack.j1 k x2 ((t211 ++ bt208.2.1).toList != x2.toList)) else (none))) else (knapsacklaw01_VarintBack.j1 k x2 false)))
def knapsacklaw01_VarintBack.j1 : Nat → ByteArray → Bool → Option (Bool)
  | 0, _, _ => none
  | k + 1, x2, x78 => if x78 = true then (some false) else ((varint_Take.f k x2).bind fun bt212 => ((knapsacklaw01_knows.f k).bind fun t215 => (if t215 = true then (if bt212.2.2 = 0 then ((varint_Text.f k bt212.1).bind fun t216 => (if t216.size + bt212.2.1.size ≤ 9223372036854775807 then (some ((t216 ++ bt212.2.1).toList == x2.toList)) else (none))) else (some true)) else (some false))))
end
def knapsacklaw01_VarintBack.f (k : Nat) (a0 : Int) (a1 : ByteArray) (a2 : ByteArray) : Option (Bool) := (varint_Put.f k a0).bind fun t200 => (if t200.size + a2.size ≤ 9223372036854775807 then ((varint_Get.f k (t200 ++ a2)).bind fun bt201 => ((varint_Text.f k a1).bind fun t204 => (if t204.size + a2.size ≤ 9223372036854775807 then ((varint_Take.f k (t204 ++ a2)).bind fun bt205 => (if bt201.2.2 = 0 then (if bt201.1 = a0 then (if bt201.2.1.toList = a2.toList then (if bt205.2.2 = 0 then (if bt205.1.toList = a1.toList then (knapsacklaw01_VarintBack.j0 k a2 (bt205.2.1.toList != a2.toList)) else (knapsacklaw01_VarintBack.j0 k a2 true)) else (knapsacklaw01_VarintBack.j0 k a2 true)) else (knapsacklaw01_VarintBack.j0 k a2 true)) else (knapsacklaw01_VarintBack.j0 k a2 true)) else (knapsacklaw01_VarintBack.j0 k a2 true))) else (none)))) else (none))
theorem knapsacklaw01_VarintBack.mono_l : ∀ k, (∀ y0 y1, LeO (knapsacklaw01_VarintBack.j0 k y0 y1) (knapsacklaw01_VarintBack.j0 (k + 1) y0 y1)) ∧ (∀ y0 y1, LeO (knapsacklaw01_VarintBack.j1 k y0 y1) (knapsacklaw01_VarintBack.j1 (k + 1) y0 y1))
  | 0 => ⟨fun _ _ r h => by simp [knapsacklaw01_VarintBack.j0] at h, fun _ _ r h => by simp [knapsacklaw01_VarintBack.j1] at h⟩
  | k + 1 => by
    obtain ⟨ih0, ih1⟩ := knapsacklaw01_VarintBack.mono_l k
    refine ⟨?_, ?_⟩
    · intro y0 y1
      unfold knapsacklaw01_VarintBack.j0
      repeat' first
      | (with_reducible exact ih0 _ _)
      | (with_reducible exact ih1 _ _)
      | (with_reducible exact knapsacklaw01_knows.mono _)
      | (with_reducible exact varint_Get.mono _ _)
      | (with_reducible exact varint_Put.mono _ _)
      | (with_reducible exact varint_Take.mono _ _)
      | (with_reducible exact varint_Text.mono _ _)
      | (with_reducible exact LeO.refl _)
      | (with_reducible exact LeO.none _)
      | (with_reducible refine LeO.ite ?_ ?_)
      | (with_reducible refine LeO.bind ?_ (fun _ => ?_))
      | exact ih0 _ _
      | exact ih1 _ _
      | exact knapsacklaw01_knows.mono _
      | exact varint_Get.mono _ _
      | exact varint_Put.mono _ _
      | exact varint_Take.mono _ _
      | exact varint_Text.mono _ _
      | exact LeO.none _
      | refine LeO.ite ?_ ?_
      | refine LeO.bind ?_ (fun _ => ?_)
    · intro y0 y1
      unfold knapsacklaw01_VarintBack.j1
      repeat' first
      | (with_reducible exact ih0 _ _)
      | (with_reducible exact ih1 _ _)
      | (with_reducible exact knapsacklaw01_knows.mono _)
      | (with_reducible exact varint_Get.mono _ _)
      | (with_reducible exact varint_Put.mono _ _)
      | (with_reducible exact varint_Take.mono _ _)
      | (with_reducible exact varint_Text.mono _ _)
      | (with_reducible exact LeO.refl _)
      | (with_reducible exact LeO.none _)
      | (with_reducible refine LeO.ite ?_ ?_)
      | (with_reducible refine LeO.bind ?_ (fun _ => ?_))
      | exact ih0 _ _
      | exact ih1 _ _
      | exact knapsacklaw01_knows.mono _
      | exact varint_Get.mono _ _
      | exact varint_Put.mono _ _
      | exact varint_Take.mono _ _
      | exact varint_Text.mono _ _
      | exact LeO.none _
      | refine LeO.ite ?_ ?_
      | refine LeO.bind ?_ (fun _ => ?_)
theorem knapsacklaw01_VarintBack.mono : ∀ a0 a1 a2 k, LeO (knapsacklaw01_VarintBack.f k a0 a1 a2) (knapsacklaw01_VarintBack.f (k + 1) a0 a1 a2) := by
  intro a0 a1 a2 k
  obtain ⟨ih0, ih1⟩ := knapsacklaw01_VarintBack.mono_l k
  unfold knapsacklaw01_VarintBack.f
  repeat' first
      | (with_reducible exact ih0 _ _)
      | (with_reducible exact ih1 _ _)
      | (with_reducible exact knapsacklaw01_knows.mono _)
      | (with_reducible exact varint_Get.mono _ _)
      | (with_reducible exact varint_Put.mono _ _)
      | (with_reducible exact varint_Take.mono _ _)
      | (with_reducible exact varint_Text.mono _ _)
      | (with_reducible exact LeO.refl _)
      | (with_reducible exact LeO.none _)
      | (with_reducible refine LeO.ite ?_ ?_)
      | (with_reducible refine LeO.bind ?_ (fun _ => ?_))
      | exact ih0 _ _
      | exact ih1 _ _
      | exact knapsacklaw01_knows.mono _
      | exact varint_Get.mono _ _
      | exact varint_Put.mono _ _
      | exact varint_Take.mono _ _
      | exact varint_Text.mono _ _
      | exact LeO.none _
      | refine LeO.ite ?_ ?_
      | refine LeO.bind ?_ (fun _ => ?_)
set_option maxHeartbeats 8000000 in
set_option maxRecDepth 100000 in
theorem knapsacklaw01_VarintBack.calls (k : Nat) (a0 : Int) (a1 : ByteArray) (a2 : ByteArray) (r : Bool) (w : World) (h : knapsacklaw01_VarintBack.f k a0 a1 a2 = some r) :
    Calls Try.prog 6 #[.int .u64 a0, .string a1, .string a2] w fun e w' => e = .returned (.bool r) ∧ Below w.heap.size w w' := by
  have HB := Aside0.mk (Below.refl w.heap.size w)
  have H : ((varint_Put.f k a0).bind fun t200 => (if t200.size + a2.size ≤ 9223372036854775807 then ((varint_Get.f k (t200 ++ a2)).bind fun bt201 => ((varint_Text.f k a1).bind fun t204 => (if t204.size + a2.size ≤ 9223372036854775807 then ((varint_Take.f k (t204 ++ a2)).bind fun bt205 => (if bt201.2.2 = 0 then (if bt201.1 = a0 then (if bt201.2.1.toList = a2.toList then (if bt205.2.2 = 0 then (if bt205.1.toList = a1.toList then (knapsacklaw01_VarintBack.j0 k a2 (bt205.2.1.toList != a2.toList)) else (knapsacklaw01_VarintBack.j0 k a2 true)) else (knapsacklaw01_VarintBack.j0 k a2 true)) else (knapsacklaw01_VarintBack.j0 k a2 true)) else (knapsacklaw01_VarintBack.j0 k a2 true)) else (knapsacklaw01_VarintBack.j0 k a2 true))) else (none)))) else (none))) = some r := h
  clear h
  replace H := Option.bind_eq_some_iff.mp H
  obtain ⟨t200, A40, H⟩ := H
  replace H : (if t200.size + a2.size ≤ 9223372036854775807 then ((varint_Get.f k (t200 ++ a2)).bind fun bt201 => ((varint_Text.f k a1).bind fun t204 => (if t204.size + a2.size ≤ 9223372036854775807 then ((varint_Take.f k (t204 ++ a2)).bind fun bt205 => (if bt201.2.2 = 0 then (if bt201.1 = a0 then (if bt201.2.1.toList = a2.toList then (if bt205.2.2 = 0 then (if bt205.1.toList = a1.toList then (knapsacklaw01_VarintBack.j0 k a2 (bt205.2.1.toList != a2.toList)) else (knapsacklaw01_VarintBack.j0 k a2 true)) else (knapsacklaw01_VarintBack.j0 k a2 true)) else (knapsacklaw01_VarintBack.j0 k a2 true)) else (knapsacklaw01_VarintBack.j0 k a2 true)) else (knapsacklaw01_VarintBack.j0 k a2 true))) else (none)))) else (none)) = some r := H
  have A4 := Aside0.mk A40
  clear A40
  by_cases c5 : t200.size + a2.size ≤ 9223372036854775807
  · rw [if_pos c5] at H
    have c5b1 : decide (t200.size + a2.size ≤ 9223372036854775807) = true := decide_eq_true c5
    try have c5b2 : (9223372036854775807 < t200.size + a2.size) = False := eq_false (Nat.not_lt.2 c5)
    clear c5
    replace H := Option.bind_eq_some_iff.mp H
    obtain ⟨⟨t201, t202, t203⟩, A60, H⟩ := H
    replace H : ((varint_Text.f k a1).bind fun t204 => (if t204.size + a2.size ≤ 9223372036854775807 then ((varint_Take.f k (t204 ++ a2)).bind fun bt205 => (if t203 = 0 then (if t201 = a0 then (if t202.toList = a2.toList then (if bt205.2.2 = 0 then (if bt205.1.toList = a1.toList then (knapsacklaw01_VarintBack.j0 k a2 (bt205.2.1.toList != a2.toList)) else (knapsacklaw01_VarintBack.j0 k a2 true)) else (knapsacklaw01_VarintBack.j0 k a2 true)) else (knapsacklaw01_VarintBack.j0 k a2 true)) else (knapsacklaw01_VarintBack.j0 k a2 true)) else (knapsacklaw01_VarintBack.j0 k a2 true))) else (none))) = some r := H
    have A6 := Aside0.mk A60
    clear A60
    replace H := Option.bind_eq_some_iff.mp H
    obtain ⟨t204, A70, H⟩ := H
    replace H : (if t204.size + a2.size ≤ 9223372036854775807 then ((varint_Take.f k (t204 ++ a2)).bind fun bt205 => (if t203 = 0 then (if t201 = a0 then (if t202.toList = a2.toList then (if bt205.2.2 = 0 then (if bt205.1.toList = a1.toList then (knapsacklaw01_VarintBack.j0 k a2 (bt205.2.1.toList != a2.toList)) else (knapsacklaw01_VarintBack.j0 k a2 true)) else (knapsacklaw01_VarintBack.j0 k a2 true)) else (knapsacklaw01_VarintBack.j0 k a2 true)) else (knapsacklaw01_VarintBack.j0 k a2 true)) else (knapsacklaw01_VarintBack.j0 k a2 true))) else (none)) = some r := H
    have A7 := Aside0.mk A70
    clear A70
    by_cases c8 : t204.size + a2.size ≤ 9223372036854775807
    · rw [if_pos c8] at H
      have c8b1 : decide (t204.size + a2.size ≤ 9223372036854775807) = true := decide_eq_true c8
      try have c8b2 : (9223372036854775807 < t204.size + a2.size) = False := eq_false (Nat.not_lt.2 c8)
      clear c8
      replace H := Option.bind_eq_some_iff.mp H
      obtain ⟨⟨t205, t206, t207⟩, A90, H⟩ := H
      replace H : (if t203 = 0 then (if t201 = a0 then (if t202.toList = a2.toList then (if t207 = 0 then (if t205.toList = a1.toList then (knapsacklaw01_VarintBack.j0 k a2 (t206.toList != a2.toList)) else (knapsacklaw01_VarintBack.j0 k a2 true)) else (knapsacklaw01_VarintBack.j0 k a2 true)) else (knapsacklaw01_VarintBack.j0 k a2 true)) else (knapsacklaw01_VarintBack.j0 k a2 true)) else (knapsacklaw01_VarintBack.j0 k a2 true)) = some r := H
      have A9 := Aside0.mk A90
      clear A90
      have HC10 := Aside0.mk H
      clear H
      go_enter Try.func6, Try.ntmps6
      go_upto_region 3 with (first | ((with_reducible refine gate_callee (f := 19) rfl ?_); refine goesL_ (some 21) rfl rfl Try.func19 (by kernel_rfl) rfl #[.int .u64 a0] rfl (by (try simp only [List.map_toArray, List.map_cons, List.map_nil]); first | done | rfl | (simp only [List.length_drop, List.length_take]; rfl)) ?_; (with_reducible refine (varint_Put.calls k a0 t200 _ A4.out).mono ?_); rintro e w11 ⟨rfl, hb⟩; refine ⟨_, rfl, ?_⟩; have n0_ := Aside0.mk (below_step (by repeat (first | (with_reducible first | exact HB.out | apply below_alloc | apply pw_below_drewN | apply below_drew1) | exact HB.out)) hb); clear HB; have HB := n0_; clear n0_; (try clear hb); (try clear hb2); (try clear hk); (try clear hi)) | ((with_reducible refine gate_callee (f := 23) rfl ?_); refine goesL_ (some 24) rfl rfl Try.func23 (by kernel_rfl) rfl #[.string (t200 ++ a2)] rfl (by (try simp only [List.map_toArray, List.map_cons, List.map_nil]); first | done | rfl | (simp only [List.length_drop, List.length_take]; rfl)) ?_; (with_reducible refine (varint_Get.calls k (t200 ++ a2) t201 t202 t203 _ A6.out).mono ?_); rintro e w12 ⟨rfl, hb⟩; refine ⟨_, rfl, ?_⟩; have n0_ := Aside0.mk (below_step (by repeat (first | (with_reducible first | exact HB.out | apply below_alloc | apply pw_below_drewN | apply below_drew1) | exact HB.out)) hb); clear HB; have HB := n0_; clear n0_; (try clear hb); (try clear hb2); (try clear hk); (try clear hi)) | ((with_reducible refine gate_callee (f := 21) rfl ?_); refine goesL_ (some 30) rfl rfl Try.func21 (by kernel_rfl) rfl #[.string a1] rfl (by (try simp only [List.map_toArray, List.map_cons, List.map_nil]); first | done | rfl | (simp only [List.length_drop, List.length_take]; rfl)) ?_; (with_reducible refine (varint_Text.calls k a1 t204 _ A7.out).mono ?_); rintro e w13 ⟨rfl, hb⟩; refine ⟨_, rfl, ?_⟩; have n0_ := Aside0.mk (below_step (by repeat (first | (with_reducible first | exact HB.out | apply below_alloc | apply pw_below_drewN | apply below_drew1) | exact HB.out)) hb); clear HB; have HB := n0_; clear n0_; (try clear hb); (try clear hb2); (try clear hk); (try clear hi)) | ((with_reducible refine gate_callee (f := 25) rfl ?_); refine goesL_ (some 33) rfl rfl Try.func25 (by kernel_rfl) rfl #[.string (t204 ++ a2)] rfl (by (try simp only [List.map_toArray, List.map_cons, List.map_nil]); first | done | rfl | (simp only [List.length_drop, List.length_take]; rfl)) ?_; (with_reducible refine (varint_Take.calls k (t204 ++ a2) t205 t206 t207 _ A9.out).mono ?_); rintro e w14 ⟨rfl, hb⟩; refine ⟨_, rfl, ?_⟩; have n0_ := Aside0.mk (below_step (by repeat (first | (with_reducible first | exact HB.out | apply below_alloc | apply pw_below_drewN | apply below_drew1) | exact HB.out)) hb); clear HB; have HB := n0_; clear n0_; (try clear hb); (try clear hb2); (try clear hk); (try clear hi)))
      (try simp only [Act.put, List.setIfInBounds_toArray, List.set_cons_zero, List.set_cons_succ])
      go_cut [62] (fun v62 wc => ∃ (kq : Nat) (x62_9 : Bool), v62 = .bool x62_9 ∧ Aside0 (knapsacklaw01_VarintBack.j0 kq a2 x62_9 = some r) ∧ Aside0 (kq ≤ k) ∧ Aside0 (Below w.heap.size w wc))
      case first =>
        have H := HC10.out
        clear HC10
        by_cases c15 : t203 = 0
        · rw [if_pos c15] at H
          have c15b0 : (t203 == 0) = true := beq_iff_eq.mpr c15
          have c15b1 : (t203 != 0) = false := bne_eq_false_iff_eq.mpr c15
          clear c15
          (first | rw [c15b0] | (simp only [i64_w, i32_w]; rw [c15b0]) | skip)
          by_cases c16 : t201 = a0
          · rw [if_pos c16] at H
            have c16b0 : (t201 == a0) = true := beq_iff_eq.mpr c16
            have c16b1 : (t201 != a0) = false := bne_eq_false_iff_eq.mpr c16
            clear c16
            by_cases c17 : t202.toList = a2.toList
            · rw [if_pos c17] at H
              have c17b0 : (t202.toList == a2.toList) = true := beq_iff_eq.mpr c17
              have c17b1 : (t202.toList != a2.toList) = false := bne_eq_false_iff_eq.mpr c17
              clear c17
              by_cases c18 : t207 = 0
              · rw [if_pos c18] at H
                have c18b0 : (t207 == 0) = true := beq_iff_eq.mpr c18
                have c18b1 : (t207 != 0) = false := bne_eq_false_iff_eq.mpr c18
                clear c18
                by_cases c19 : t205.toList = a1.toList
                · rw [if_pos c19] at H
                  have c19b0 : (t205.toList == a1.toList) = true := beq_iff_eq.mpr c19
                  have c19b1 : (t205.toList != a1.toList) = false := bne_eq_false_iff_eq.mpr c19
                  clear c19
                  have H' := Aside0.mk H
                  clear H
                  go_wp2
                  go_meet
                  case rel => exact ⟨_, ((t206.toList != a2.toList)), (by first | rfl | (simp; done) | (simp; omega) | (simp [*]; done)), H', ⟨by first | omega | exact Nat.le_refl _⟩, ⟨by repeat (first | (with_reducible first | exact HB.out | apply below_alloc | apply pw_below_drewN | apply below_drew1) | exact HB.out)⟩⟩
                · rw [if_neg c19] at H
                  have c19b0 : (t205.toList == a1.toList) = false := beq_eq_false_iff_ne.mpr c19
                  have c19b1 : (t205.toList != a1.toList) = true := bne_iff_ne.mpr c19
                  have H' := Aside0.mk H
                  clear H
                  go_wp2
                  go_meet
                  case rel => exact ⟨_, (true), (by first | rfl | (simp; done) | (simp; omega) | (simp [*]; done)), H', ⟨by first | omega | exact Nat.le_refl _⟩, ⟨by repeat (first | (with_reducible first | exact HB.out | apply below_alloc | apply pw_below_drewN | apply below_drew1) | exact HB.out)⟩⟩
              · rw [if_neg c18] at H
                have c18b0 : (t207 == 0) = false := beq_eq_false_iff_ne.mpr c18
                have c18b1 : (t207 != 0) = true := bne_iff_ne.mpr c18
                have H' := Aside0.mk H
                clear H
                go_wp2
                go_meet
                case rel => exact ⟨_, (true), (by first | rfl | (simp; done) | (simp; omega) | (simp [*]; done)), H', ⟨by first | omega | exact Nat.le_refl _⟩, ⟨by repeat (first | (with_reducible first | exact HB.out | apply below_alloc | apply pw_below_drewN | apply below_drew1) | exact HB.out)⟩⟩
            · rw [if_neg c17] at H
              have c17b0 : (t202.toList == a2.toList) = false := beq_eq_false_iff_ne.mpr c17
              have c17b1 : (t202.toList != a2.toList) = true := bne_iff_ne.mpr c17
              have H' := Aside0.mk H
              clear H
              go_wp2
              go_meet
              case rel => exact ⟨_, (true), (by first | rfl | (simp; done) | (simp; omega) | (simp [*]; done)), H', ⟨by first | omega | exact Nat.le_refl _⟩, ⟨by repeat (first | (with_reducible first | exact HB.out | apply below_alloc | apply pw_below_drewN | apply below_drew1) | exact HB.out)⟩⟩
          · rw [if_neg c16] at H
            have c16b0 : (t201 == a0) = false := beq_eq_false_iff_ne.mpr c16
            have c16b1 : (t201 != a0) = true := bne_iff_ne.mpr c16
            have H' := Aside0.mk H
            clear H
            go_wp2
            go_meet
            case rel => exact ⟨_, (true), (by first | rfl | (simp; done) | (simp; omega) | (simp [*]; done)), H', ⟨by first | omega | exact Nat.le_refl _⟩, ⟨by repeat (first | (with_reducible first | exact HB.out | apply below_alloc | apply pw_below_drewN | apply below_drew1) | exact HB.out)⟩⟩
        · rw [if_neg c15] at H
          have c15b0 : (t203 == 0) = false := beq_eq_false_iff_ne.mpr c15
          have c15b1 : (t203 != 0) = true := bne_iff_ne.mpr c15
          (first | rw [c15b0] | (simp only [i64_w, i32_w]; rw [c15b0]) | skip)
          have H' := Aside0.mk H
          clear H
          go_wp2
          go_meet
          case rel => exact ⟨_, (true), (by first | rfl | (simp; done) | (simp; omega) | (simp [*]; done)), H', ⟨by first | omega | exact Nat.le_refl _⟩, ⟨by repeat (first | (with_reducible first | exact HB.out | apply below_alloc | apply pw_below_drewN | apply below_drew1) | exact HB.out)⟩⟩
      case rest =>
        clear HC10
        try clear c1
        try clear c2
        try clear p2
        try clear c5
        try clear c5b1
        try clear c5b2
        try clear c6
        try clear c8
        try clear c8b1
        try clear c8b2
        try clear c15
        try clear c15b0
        try clear c15b1
        try clear c16
        try clear c16b0
        try clear c16b1
        try clear c17
        try clear c17b0
        try clear c17b1
        try clear c18
        try clear c18b0
        try clear c18b1
        try clear c19
        try clear c19b0
        try clear c19b1
        obtain ⟨kq, x62_9, rfl, HA, HJ9, HB⟩ := hcut
        cases kq with
        | zero => exact absurd HA.out (by simp [knapsacklaw01_VarintBack.j0])
        | succ kj9 =>
          have H := HA.out
          clear HA
          simp only [knapsacklaw01_VarintBack.j0] at H
          by_cases c20 : x62_9 = true
          · subst c20
            have H1 : (some false) = some r := by rw [if_pos rfl] at H; exact H
            clear H
            have H := H1
            clear H1
            obtain rfl := Option.some.inj H
            go_wp2
            go_ret
            exact ⟨by first | rfl | (simp [errW_none, errW_some] <;> rfl) | (simp [*, errW_none, errW_some] <;> rfl), by repeat (first | (with_reducible first | exact HB.out | apply below_alloc | apply pw_below_drewN | apply below_drew1) | exact HB.out)⟩
          · replace c20 := Bool.eq_false_iff.mpr c20
            subst c20
            have H1 : ((varint_Get.f kj9 a2).bind fun bt208 => (if bt208.2.2 = 0 then ((varint_Put.f kj9 bt208.1).bind fun t211 => (if t211.size + bt208.2.1.size ≤ 9223372036854775807 then (knapsacklaw01_VarintBack.j1 kj9 a2 ((t211 ++ bt208.2.1).toList != a2.toList)) else (none))) else (knapsacklaw01_VarintBack.j1 kj9 a2 false))) = some r := by rw [if_neg (show ¬ (false = true) by decide)] at H; exact H
            clear H
            have H := H1
            clear H1
            replace H := Option.bind_eq_some_iff.mp H
            obtain ⟨⟨t208, t209, t210⟩, A210, H⟩ := H
            replace H : (if t210 = 0 then ((varint_Put.f kj9 t208).bind fun t211 => (if t211.size + t209.size ≤ 9223372036854775807 then (knapsacklaw01_VarintBack.j1 kj9 a2 ((t211 ++ t209).toList != a2.toList)) else (none))) else (knapsacklaw01_VarintBack.j1 kj9 a2 false)) = some r := H
            have A21 := Aside0.mk A210
            clear A210
            have HC22 := Aside0.mk H
            clear H
            go_upto_region 6 with (first | ((with_reducible refine gate_callee (f := 23) rfl ?_); refine goesL_ (some 65) rfl rfl Try.func23 (by kernel_rfl) rfl #[.string a2] rfl (by (try simp only [List.map_toArray, List.map_cons, List.map_nil]); first | done | rfl | (simp only [List.length_drop, List.length_take]; rfl)) ?_; (with_reducible refine (varint_Get.calls kj9 a2 t208 t209 t210 _ A21.out).mono ?_); rintro e w23 ⟨rfl, hb⟩; refine ⟨_, rfl, ?_⟩; have n0_ := Aside0.mk (below_step (by repeat (first | (with_reducible first | exact HB.out | apply below_alloc | apply pw_below_drewN | apply below_drew1) | exact HB.out)) hb); clear HB; have HB := n0_; clear n0_; (try clear hb); (try clear hb2); (try clear hk); (try clear hi)))
            (try simp only [Act.put, List.setIfInBounds_toArray, List.set_cons_zero, List.set_cons_succ])
            go_cut [78] (fun v78 wc => ∃ (kq : Nat) (x78_21 : Bool), v78 = .bool x78_21 ∧ Aside0 (knapsacklaw01_VarintBack.j1 kq a2 x78_21 = some r) ∧ Aside0 (kq ≤ kj9) ∧ Aside0 (Below w.heap.size w wc))
            case first =>
              have H := HC22.out
              clear HC22
              by_cases c24 : t210 = 0
              · rw [if_pos c24] at H
                have c24b0 : (t210 == 0) = true := beq_iff_eq.mpr c24
                have c24b1 : (t210 != 0) = false := bne_eq_false_iff_eq.mpr c24
                clear c24
                (first | rw [c24b0] | (simp only [i64_w, i32_w]; rw [c24b0]) | skip)
                replace H := Option.bind_eq_some_iff.mp H
                obtain ⟨t211, A250, H⟩ := H
                replace H : (if t211.size + t209.size ≤ 9223372036854775807 then (knapsacklaw01_VarintBack.j1 kj9 a2 ((t211 ++ t209).toList != a2.toList)) else (none)) = some r := H
                have A25 := Aside0.mk A250
                clear A250
                by_cases c26 : t211.size + t209.size ≤ 9223372036854775807
                · rw [if_pos c26] at H
                  have c26b1 : decide (t211.size + t209.size ≤ 9223372036854775807) = true := decide_eq_true c26
                  try have c26b2 : (9223372036854775807 < t211.size + t209.size) = False := eq_false (Nat.not_lt.2 c26)
                  clear c26
                  have H' := Aside0.mk H
                  clear H
                  go_wp2_with (first | (go_at_call 19; (with_reducible refine (varint_Put.calls kj9 t208 t211 _ A25.out).mono ?_); rintro e w27 ⟨rfl, hb⟩; have n0_ := Aside0.mk (below_step (by repeat (first | (with_reducible first | exact HB.out | apply below_alloc | apply pw_below_drewN | apply below_drew1) | exact HB.out)) hb); clear HB; have HB := n0_; clear n0_; (try clear hb); (try clear hb2); (try clear hk); (try clear hi)))
                  go_meet
                  case rel => exact ⟨_, (((t211 ++ t209).toList != a2.toList)), (by first | rfl | (simp; done) | (simp; omega) | (simp [*]; done)), H', ⟨by have := HJ9.out; first | omega | exact Nat.le_refl _⟩, ⟨by repeat (first | (with_reducible first | exact HB.out | apply below_alloc | apply pw_below_drewN | apply below_drew1) | exact HB.out)⟩⟩
                · rw [if_neg c26] at H
                  exact absurd H (by simp)
              · rw [if_neg c24] at H
                have c24b0 : (t210 == 0) = false := beq_eq_false_iff_ne.mpr c24
                have c24b1 : (t210 != 0) = true := bne_iff_ne.mpr c24
                (first | rw [c24b0] | (simp only [i64_w, i32_w]; rw [c24b0]) | skip)
                have H' := Aside0.mk H
                clear H
                go_wp2
                go_meet
                case rel => exact ⟨_, (false), (by first | rfl | (simp; done) | (simp; omega) | (simp [*]; done)), H', ⟨by have := HJ9.out; first | omega | exact Nat.le_refl _⟩, ⟨by repeat (first | (with_reducible first | exact HB.out | apply below_alloc | apply pw_below_drewN | apply below_drew1) | exact HB.out)⟩⟩
            case rest =>
              clear HC22
              try clear c1
              try clear c2
              try clear p2
              try clear c5
              try clear c5b1
              try clear c5b2
              try clear c6
              try clear c8
              try clear c8b1
              try clear c8b2
              try clear c15
              try clear c15b0
              try clear c15b1
              try clear c16
              try clear c16b0
              try clear c16b1
              try clear c17
              try clear c17b0
              try clear c17b1
              try clear c18
              try clear c18b0
              try clear c18b1
              try clear c19
              try clear c19b0
              try clear c19b1
              try clear c20
              try clear c21
              try clear c23
              try clear c24
              try clear c24b0
              try clear c24b1
              try clear c25
              try clear c26
              try clear c26b1
              try clear c26b2
              try clear p2
              obtain ⟨kq, x78_21, rfl, HA, HJ21, HB⟩ := hcut
              cases kq with
              | zero => exact absurd HA.out (by simp [knapsacklaw01_VarintBack.j1])
              | succ kj21 =>
                have H := HA.out
                clear HA
                simp only [knapsacklaw01_VarintBack.j1] at H
                by_cases c28 : x78_21 = true
                · subst c28
                  have H1 : (some false) = some r := by rw [if_pos rfl] at H; exact H
                  clear H
                  have H := H1
                  clear H1
                  obtain rfl := Option.some.inj H
                  go_wp2
                  go_ret
                  exact ⟨by first | rfl | (simp [errW_none, errW_some] <;> rfl) | (simp [*, errW_none, errW_some] <;> rfl), by repeat (first | (with_reducible first | exact HB.out | apply below_alloc | apply pw_below_drewN | apply below_drew1) | exact HB.out)⟩
                · replace c28 := Bool.eq_false_iff.mpr c28
                  subst c28
                  have H1 : ((varint_Take.f kj21 a2).bind fun bt212 => ((knapsacklaw01_knows.f kj21).bind fun t215 => (if t215 = true then (if bt212.2.2 = 0 then ((varint_Text.f kj21 bt212.1).bind fun t216 => (if t216.size + bt212.2.1.size ≤ 9223372036854775807 then (some ((t216 ++ bt212.2.1).toList == a2.toList)) else (none))) else (some true)) else (some false)))) = some r := by rw [if_neg (show ¬ (false = true) by decide)] at H; exact H
                  clear H
                  have H := H1
                  clear H1
                  replace H := Option.bind_eq_some_iff.mp H
                  obtain ⟨⟨t212, t213, t214⟩, A290, H⟩ := H
                  replace H : ((knapsacklaw01_knows.f kj21).bind fun t215 => (if t215 = true then (if t214 = 0 then ((varint_Text.f kj21 t212).bind fun t216 => (if t216.size + t213.size ≤ 9223372036854775807 then (some ((t216 ++ t213).toList == a2.toList)) else (none))) else (some true)) else (some false))) = some r := H
                  have A29 := Aside0.mk A290
                  clear A290
                  replace H := Option.bind_eq_some_iff.mp H
                  obtain ⟨t215, A300, H⟩ := H
                  replace H : (if t215 = true then (if t214 = 0 then ((varint_Text.f kj21 t212).bind fun t216 => (if t216.size + t213.size ≤ 9223372036854775807 then (some ((t216 ++ t213).toList == a2.toList)) else (none))) else (some true)) else (some false)) = some r := H
                  have A30 := Aside0.mk A300
                  clear A300
                  by_cases c31 : t215 = true
                  · subst c31
                    have H1 : (if t214 = 0 then ((varint_Text.f kj21 t212).bind fun t216 => (if t216.size + t213.size ≤ 9223372036854775807 then (some ((t216 ++ t213).toList == a2.toList)) else (none))) else (some true)) = some r := by rw [if_pos rfl] at H; exact H
                    clear H
                    have H := H1
                    clear H1
                    by_cases c32 : t214 = 0
                    · rw [if_pos c32] at H
                      have c32b0 : (t214 == 0) = true := beq_iff_eq.mpr c32
                      have c32b1 : (t214 != 0) = false := bne_eq_false_iff_eq.mpr c32
                      clear c32
                      replace H := Option.bind_eq_some_iff.mp H
                      obtain ⟨t216, A330, H⟩ := H
                      replace H : (if t216.size + t213.size ≤ 9223372036854775807 then (some ((t216 ++ t213).toList == a2.toList)) else (none)) = some r := H
                      have A33 := Aside0.mk A330
                      clear A330
                      by_cases c34 : t216.size + t213.size ≤ 9223372036854775807
                      · rw [if_pos c34] at H
                        have c34b1 : decide (t216.size + t213.size ≤ 9223372036854775807) = true := decide_eq_true c34
                        try have c34b2 : (9223372036854775807 < t216.size + t213.size) = False := eq_false (Nat.not_lt.2 c34)
                        clear c34
                        obtain rfl := Option.some.inj H
                        go_wp2_with (first | ((with_reducible refine gate_callee (f := 25) rfl ?_); refine goesL_ (some 81) rfl rfl Try.func25 (by kernel_rfl) rfl #[.string a2] rfl (by (try simp only [List.map_toArray, List.map_cons, List.map_nil]); first | done | rfl | (simp only [List.length_drop, List.length_take]; rfl)) ?_; (with_reducible refine (varint_Take.calls kj21 a2 t212 t213 t214 _ A29.out).mono ?_); rintro e w35 ⟨rfl, hb⟩; refine ⟨_, rfl, ?_⟩; have n0_ := Aside0.mk (below_step (by repeat (first | (with_reducible first | exact HB.out | apply below_alloc | apply pw_below_drewN | apply below_drew1) | exact HB.out)) hb); clear HB; have HB := n0_; clear n0_; (try clear hb); (try clear hb2); (try clear hk); (try clear hi)) | ((with_reducible refine gate_callee (f := 27) rfl ?_); refine goesL_ (some 85) rfl rfl Try.func27 (by kernel_rfl) rfl #[] rfl (by (try simp only [List.map_toArray, List.map_cons, List.map_nil]); first | done | rfl | (simp only [List.length_drop, List.length_take]; rfl)) ?_; (with_reducible refine (knapsacklaw01_knows.calls kj21  true _ A30.out).mono ?_); rintro e w36 ⟨rfl, hb⟩; refine ⟨_, rfl, ?_⟩; have n0_ := Aside0.mk (below_step (by repeat (first | (with_reducible first | exact HB.out | apply below_alloc | apply pw_below_drewN | apply below_drew1) | exact HB.out)) hb); clear HB; have HB := n0_; clear n0_; (try clear hb); (try clear hb2); (try clear hk); (try clear hi)) | (go_at_call 21; (with_reducible refine (varint_Text.calls kj21 t212 t216 _ A33.out).mono ?_); rintro e w37 ⟨rfl, hb⟩; have n0_ := Aside0.mk (below_step (by repeat (first | (with_reducible first | exact HB.out | apply below_alloc | apply pw_below_drewN | apply below_drew1) | exact HB.out)) hb); clear HB; have HB := n0_; clear n0_; (try clear hb); (try clear hb2); (try clear hk); (try clear hi)))
                        go_ret
                        exact ⟨by first | rfl | (simp [errW_none, errW_some] <;> rfl) | (simp [*, errW_none, errW_some] <;> rfl), by repeat (first | (with_reducible first | exact HB.out | apply below_alloc | apply pw_below_drewN | apply below_drew1) | exact HB.out)⟩
                      · rw [if_neg c34] at H
                        exact absurd H (by simp)
                    · rw [if_neg c32] at H
                      have c32b0 : (t214 == 0) = false := beq_eq_false_iff_ne.mpr c32
                      have c32b1 : (t214 != 0) = true := bne_iff_ne.mpr c32
                      obtain rfl := Option.some.inj H
                      go_wp2_with (first | ((with_reducible refine gate_callee (f := 25) rfl ?_); refine goesL_ (some 81) rfl rfl Try.func25 (by kernel_rfl) rfl #[.string a2] rfl (by (try simp only [List.map_toArray, List.map_cons, List.map_nil]); first | done | rfl | (simp only [List.length_drop, List.length_take]; rfl)) ?_; (with_reducible refine (varint_Take.calls kj21 a2 t212 t213 t214 _ A29.out).mono ?_); rintro e w38 ⟨rfl, hb⟩; refine ⟨_, rfl, ?_⟩; have n0_ := Aside0.mk (below_step (by repeat (first | (with_reducible first | exact HB.out | apply below_alloc | apply pw_below_drewN | apply below_drew1) | exact HB.out)) hb); clear HB; have HB := n0_; clear n0_; (try clear hb); (try clear hb2); (try clear hk); (try clear hi)) | ((with_reducible refine gate_callee (f := 27) rfl ?_); refine goesL_ (some 85) rfl rfl Try.func27 (by kernel_rfl) rfl #[] rfl (by (try simp only [List.map_toArray, List.map_cons, List.map_nil]); first | done | rfl | (simp only [List.length_drop, List.length_take]; rfl)) ?_; (with_reducible refine (knapsacklaw01_knows.calls kj21  true _ A30.out).mono ?_); rintro e w39 ⟨rfl, hb⟩; refine ⟨_, rfl, ?_⟩; have n0_ := Aside0.mk (below_step (by repeat (first | (with_reducible first | exact HB.out | apply below_alloc | apply pw_below_drewN | apply below_drew1) | exact HB.out)) hb); clear HB; have HB := n0_; clear n0_; (try clear hb); (try clear hb2); (try clear hk); (try clear hi)))
                      go_ret
                      exact ⟨by first | rfl | (simp [errW_none, errW_some] <;> rfl) | (simp [*, errW_none, errW_some] <;> rfl), by repeat (first | (with_reducible first | exact HB.out | apply below_alloc | apply pw_below_drewN | apply below_drew1) | exact HB.out)⟩
                  · replace c31 := Bool.eq_false_iff.mpr c31
                    subst c31
                    have H1 : (some false) = some r := by rw [if_neg (show ¬ (false = true) by decide)] at H; exact H
                    clear H
                    have H := H1
                    clear H1
                    obtain rfl := Option.some.inj H
                    go_wp2_with (first | ((with_reducible refine gate_callee (f := 25) rfl ?_); refine goesL_ (some 81) rfl rfl Try.func25 (by kernel_rfl) rfl #[.string a2] rfl (by (try simp only [List.map_toArray, List.map_cons, List.map_nil]); first | done | rfl | (simp only [List.length_drop, List.length_take]; rfl)) ?_; (with_reducible refine (varint_Take.calls kj21 a2 t212 t213 t214 _ A29.out).mono ?_); rintro e w40 ⟨rfl, hb⟩; refine ⟨_, rfl, ?_⟩; have n0_ := Aside0.mk (below_step (by repeat (first | (with_reducible first | exact HB.out | apply below_alloc | apply pw_below_drewN | apply below_drew1) | exact HB.out)) hb); clear HB; have HB := n0_; clear n0_; (try clear hb); (try clear hb2); (try clear hk); (try clear hi)) | ((with_reducible refine gate_callee (f := 27) rfl ?_); refine goesL_ (some 85) rfl rfl Try.func27 (by kernel_rfl) rfl #[] rfl (by (try simp only [List.map_toArray, List.map_cons, List.map_nil]); first | done | rfl | (simp only [List.length_drop, List.length_take]; rfl)) ?_; (with_reducible refine (knapsacklaw01_knows.calls kj21  false _ A30.out).mono ?_); rintro e w41 ⟨rfl, hb⟩; refine ⟨_, rfl, ?_⟩; have n0_ := Aside0.mk (below_step (by repeat (first | (with_reducible first | exact HB.out | apply below_alloc | apply pw_below_drewN | apply below_drew1) | exact HB.out)) hb); clear HB; have HB := n0_; clear n0_; (try clear hb); (try clear hb2); (try clear hk); (try clear hi)))
                    go_ret
                    exact ⟨by first | rfl | (simp [errW_none, errW_some] <;> rfl) | (simp [*, errW_none, errW_some] <;> rfl), by repeat (first | (with_reducible first | exact HB.out | apply below_alloc | apply pw_below_drewN | apply below_drew1) | exact HB.out)⟩
    · rw [if_neg c8] at H
      exact absurd H (by simp)
  · rw [if_neg c5] at H
    exact absurd H (by simp)

/-- THE ONE PURE STATEMENT of knapsacklaw01_VarintBack: yours. -/
def knapsacklaw01_VarintBack.Pure : Prop := ∀ (a0 : Int) (a1 : ByteArray) (a2 : ByteArray), (Lit.int .u64 a0).wf = true → a1.size ≤ 140737488351232 → a2.size ≤ 140737488351232 → ∃ k, knapsacklaw01_VarintBack.f k a0 a1 a2 = some true
theorem knapsacklaw01_VarintBack.walk (P : knapsacklaw01_VarintBack.Pure) (a0 : Int) (a1 : ByteArray) (a2 : ByteArray) (w : World) (w0 : (Lit.int .u64 a0).wf = true) (w1 : a1.size ≤ 140737488351232) (w2 : a2.size ≤ 140737488351232) :
    Calls Try.prog 6 #[.int .u64 a0, .string a1, .string a2] w fun e w' => e = .returned (.bool true) ∧ Below w.heap.size w w' := by
  obtain ⟨k, h⟩ := P a0 a1 a2 w0 w1 w2
  refine (knapsacklaw01_VarintBack.calls k a0 a1 a2 true w h).mono ?_
  rintro e w' ⟨rfl, hd⟩
  exact ⟨rfl, hd⟩

/-! ### delta_head: function 45 -/
def delta_head.f (k : Nat) (a0 : ByteArray) : Option (Int × Int × ByteArray × Int) := (varint_Get.f k a0).bind fun bt217 => (if bt217.2.2 = 0 then ((varint_Get.f k bt217.2.1).bind fun bt220 => (if bt220.2.2 = 0 then (some (bt217.1, bt220.1, bt220.2.1, 0)) else (some (0, 0, (⟨#[]⟩ : ByteArray), bt220.2.2)))) else (some (0, 0, (⟨#[]⟩ : ByteArray), bt217.2.2)))
theorem delta_head.mono : ∀ a0 k, LeO (delta_head.f k a0) (delta_head.f (k + 1) a0) := by
  intro a0 k
  unfold delta_head.f
  repeat' first
      | (with_reducible exact varint_Get.mono _ _)
      | (with_reducible exact LeO.refl _)
      | (with_reducible exact LeO.none _)
      | (with_reducible refine LeO.ite ?_ ?_)
      | (with_reducible refine LeO.bind ?_ (fun _ => ?_))
      | exact varint_Get.mono _ _
      | exact LeO.none _
      | refine LeO.ite ?_ ?_
      | refine LeO.bind ?_ (fun _ => ?_)
set_option maxHeartbeats 8000000 in
set_option maxRecDepth 100000 in
theorem delta_head.calls (k : Nat) (a0 : ByteArray) (r1 : Int) (r2 : Int) (r3 : ByteArray) (r4 : Int) (w : World) (h : delta_head.f k a0 = some (r1, r2, r3, r4)) :
    Calls Try.prog 45 #[.string a0] w fun e w' => e = .returned (.tuple #[.int .u64 r1, .int .u64 r2, .string r3, .int .i64 r4]) ∧ Below w.heap.size w w' := by
  have HB := Aside0.mk (Below.refl w.heap.size w)
  have H : ((varint_Get.f k a0).bind fun bt217 => (if bt217.2.2 = 0 then ((varint_Get.f k bt217.2.1).bind fun bt220 => (if bt220.2.2 = 0 then (some (bt217.1, bt220.1, bt220.2.1, 0)) else (some (0, 0, (⟨#[]⟩ : ByteArray), bt220.2.2)))) else (some (0, 0, (⟨#[]⟩ : ByteArray), bt217.2.2)))) = some (r1, r2, r3, r4) := h
  clear h
  replace H := Option.bind_eq_some_iff.mp H
  obtain ⟨⟨t217, t218, t219⟩, A20, H⟩ := H
  replace H : (if t219 = 0 then ((varint_Get.f k t218).bind fun bt220 => (if bt220.2.2 = 0 then (some (t217, bt220.1, bt220.2.1, 0)) else (some (0, 0, (⟨#[]⟩ : ByteArray), bt220.2.2)))) else (some (0, 0, (⟨#[]⟩ : ByteArray), t219))) = some (r1, r2, r3, r4) := H
  have A2 := Aside0.mk A20
  clear A20
  by_cases c3 : t219 = 0
  · rw [if_pos c3] at H
    have c3b0 : (t219 == 0) = true := beq_iff_eq.mpr c3
    have c3b1 : (t219 != 0) = false := bne_eq_false_iff_eq.mpr c3
    clear c3
    replace H := Option.bind_eq_some_iff.mp H
    obtain ⟨⟨t220, t221, t222⟩, A40, H⟩ := H
    replace H : (if t222 = 0 then (some (t217, t220, t221, 0)) else (some (0, 0, (⟨#[]⟩ : ByteArray), t222))) = some (r1, r2, r3, r4) := H
    have A4 := Aside0.mk A40
    clear A40
    by_cases c5 : t222 = 0
    · rw [if_pos c5] at H
      have c5b0 : (t222 == 0) = true := beq_iff_eq.mpr c5
      have c5b1 : (t222 != 0) = false := bne_eq_false_iff_eq.mpr c5
      clear c5
      simp only [Option.some.injEq, Prod.mk.injEq] at H
      obtain ⟨rfl, rfl, rfl, rfl⟩ := H
      go_enter Try.func45, Try.ntmps45
      go_wp2_with (first | ((with_reducible refine gate_callee (f := 23) rfl ?_); refine goesL_ (some 12) rfl rfl Try.func23 (by kernel_rfl) rfl #[.string a0] rfl (by (try simp only [List.map_toArray, List.map_cons, List.map_nil]); first | done | rfl | (simp only [List.length_drop, List.length_take]; rfl)) ?_; (with_reducible refine (varint_Get.calls k a0 t217 t218 t219 _ A2.out).mono ?_); rintro e w6 ⟨rfl, hb⟩; refine ⟨_, rfl, ?_⟩; have n0_ := Aside0.mk (below_step (by repeat (first | (with_reducible first | exact HB.out | apply below_alloc | apply pw_below_drewN | apply below_drew1) | exact HB.out)) hb); clear HB; have HB := n0_; clear n0_; (try clear hb); (try clear hb2); (try clear hk); (try clear hi)) | ((with_reducible refine gate_callee (f := 23) rfl ?_); refine goesL_ (some 21) rfl rfl Try.func23 (by kernel_rfl) rfl #[.string t218] rfl (by (try simp only [List.map_toArray, List.map_cons, List.map_nil]); first | done | rfl | (simp only [List.length_drop, List.length_take]; rfl)) ?_; (with_reducible refine (varint_Get.calls k t218 t220 t221 t222 _ A4.out).mono ?_); rintro e w7 ⟨rfl, hb⟩; refine ⟨_, rfl, ?_⟩; have n0_ := Aside0.mk (below_step (by repeat (first | (with_reducible first | exact HB.out | apply below_alloc | apply pw_below_drewN | apply below_drew1) | exact HB.out)) hb); clear HB; have HB := n0_; clear n0_; (try clear hb); (try clear hb2); (try clear hk); (try clear hi)))
      refine bodyPost_ret (results_list (rs := [.tmp 2, .tmp 3, .tmp 4, .tmp 5]) rfl (by simp) (.tmp (.tmp (.tmp (.tmp .nil))))) rfl ?_
      exact ⟨by first | rfl | (simp [errW_none, errW_some] <;> rfl) | (simp [*, errW_none, errW_some] <;> rfl), by repeat (first | (with_reducible first | exact HB.out | apply below_alloc | apply pw_below_drewN | apply below_drew1) | exact HB.out)⟩
    · rw [if_neg c5] at H
      have c5b0 : (t222 == 0) = false := beq_eq_false_iff_ne.mpr c5
      have c5b1 : (t222 != 0) = true := bne_iff_ne.mpr c5
      simp only [Option.some.injEq, Prod.mk.injEq] at H
      obtain ⟨rfl, rfl, rfl, rfl⟩ := H
      go_enter Try.func45, Try.ntmps45
      go_wp2_with (first | ((with_reducible refine gate_callee (f := 23) rfl ?_); refine goesL_ (some 12) rfl rfl Try.func23 (by kernel_rfl) rfl #[.string a0] rfl (by (try simp only [List.map_toArray, List.map_cons, List.map_nil]); first | done | rfl | (simp only [List.length_drop, List.length_take]; rfl)) ?_; (with_reducible refine (varint_Get.calls k a0 t217 t218 t219 _ A2.out).mono ?_); rintro e w8 ⟨rfl, hb⟩; refine ⟨_, rfl, ?_⟩; have n0_ := Aside0.mk (below_step (by repeat (first | (with_reducible first | exact HB.out | apply below_alloc | apply pw_below_drewN | apply below_drew1) | exact HB.out)) hb); clear HB; have HB := n0_; clear n0_; (try clear hb); (try clear hb2); (try clear hk); (try clear hi)) | ((with_reducible refine gate_callee (f := 23) rfl ?_); refine goesL_ (some 21) rfl rfl Try.func23 (by kernel_rfl) rfl #[.string t218] rfl (by (try simp only [List.map_toArray, List.map_cons, List.map_nil]); first | done | rfl | (simp only [List.length_drop, List.length_take]; rfl)) ?_; (with_reducible refine (varint_Get.calls k t218 t220 t221 t222 _ A4.out).mono ?_); rintro e w9 ⟨rfl, hb⟩; refine ⟨_, rfl, ?_⟩; have n0_ := Aside0.mk (below_step (by repeat (first | (with_reducible first | exact HB.out | apply below_alloc | apply pw_below_drewN | apply below_drew1) | exact HB.out)) hb); clear HB; have HB := n0_; clear n0_; (try clear hb); (try clear hb2); (try clear hk); (try clear hi)))
      refine bodyPost_ret (results_list (rs := [.tmp 2, .tmp 3, .tmp 4, .tmp 5]) rfl (by simp) (.tmp (.tmp (.tmp (.tmp .nil))))) rfl ?_
      exact ⟨by first | rfl | (simp [errW_none, errW_some] <;> rfl) | (simp [*, errW_none, errW_some] <;> rfl), by repeat (first | (with_reducible first | exact HB.out | apply below_alloc | apply pw_below_drewN | apply below_drew1) | exact HB.out)⟩
  · rw [if_neg c3] at H
    have c3b0 : (t219 == 0) = false := beq_eq_false_iff_ne.mpr c3
    have c3b1 : (t219 != 0) = true := bne_iff_ne.mpr c3
    simp only [Option.some.injEq, Prod.mk.injEq] at H
    obtain ⟨rfl, rfl, rfl, rfl⟩ := H
    go_enter Try.func45, Try.ntmps45
    go_wp2_with (first | ((with_reducible refine gate_callee (f := 23) rfl ?_); refine goesL_ (some 12) rfl rfl Try.func23 (by kernel_rfl) rfl #[.string a0] rfl (by (try simp only [List.map_toArray, List.map_cons, List.map_nil]); first | done | rfl | (simp only [List.length_drop, List.length_take]; rfl)) ?_; (with_reducible refine (varint_Get.calls k a0 t217 t218 t219 _ A2.out).mono ?_); rintro e w10 ⟨rfl, hb⟩; refine ⟨_, rfl, ?_⟩; have n0_ := Aside0.mk (below_step (by repeat (first | (with_reducible first | exact HB.out | apply below_alloc | apply pw_below_drewN | apply below_drew1) | exact HB.out)) hb); clear HB; have HB := n0_; clear n0_; (try clear hb); (try clear hb2); (try clear hk); (try clear hi)))
    refine bodyPost_ret (results_list (rs := [.tmp 2, .tmp 3, .tmp 4, .tmp 5]) rfl (by simp) (.tmp (.tmp (.tmp (.tmp .nil))))) rfl ?_
    exact ⟨by first | rfl | (simp [errW_none, errW_some] <;> rfl) | (simp [*, errW_none, errW_some] <;> rfl), by repeat (first | (with_reducible first | exact HB.out | apply below_alloc | apply pw_below_drewN | apply below_drew1) | exact HB.out)⟩

/-! ### delta_step: function 46 -/
def delta_step.j0 : Nat → ByteArray → Int → ByteArray → Int → Bool → Option (ByteArray × ByteArray)
  | 0, _, _, _, _, _ => none
  | k + 1, x0, x6, x7, x9, x24 => if x24 = true then (some ((⟨#[]⟩ : ByteArray), (⟨#[]⟩ : ByteArray))) else (if (Int.tmod x6 2) = 0 then (if x9 > (IntKind.u64.wrap ((x7.size : Int))) then (some ((⟨#[]⟩ : ByteArray), (⟨#[]⟩ : ByteArray))) else (if 0 ≤ x9 then (if x9 ≤ (x7.size : Int) then (some (x7.extract 0 (x9 : Int).toNat, x7.extract (x9 : Int).toNat x7.size)) else (none)) else (none))) else ((varint_Get.f k x7).bind fun bt226 => (if bt226.2.2 = 0 then (if bt226.1 > (IntKind.u64.wrap ((x0.size : Int))) then (some ((⟨#[]⟩ : ByteArray), (⟨#[]⟩ : ByteArray))) else (if x9 > (IntKind.u64.wrap ((IntKind.u64.wrap ((x0.size : Int))) - bt226.1)) then (some ((⟨#[]⟩ : ByteArray), (⟨#[]⟩ : ByteArray))) else (if 0 ≤ bt226.1 then (if bt226.1 ≤ (IntKind.u64.wrap (bt226.1 + x9)) then (if (IntKind.u64.wrap (bt226.1 + x9)) ≤ (x0.size : Int) then (some (x0.extract (bt226.1 : Int).toNat ((IntKind.u64.wrap (bt226.1 + x9)) : Int).toNat, bt226.2.1)) else (none)) else (none)) else (none)))) else (some ((⟨#[]⟩ : ByteArray), (⟨#[]⟩ : ByteArray))))))
def delta_step.f (k : Nat) (a0 : ByteArray) (a1 : ByteArray) : Option (ByteArray × ByteArray) := (varint_Get.f k a1).bind fun bt223 => (if bt223.2.2 = 0 then (delta_step.j0 k a0 bt223.1 bt223.2.1 (IntKind.u64.wrap (Int.tdiv bt223.1 2)) ((IntKind.u64.wrap (Int.tdiv bt223.1 2)) == 0)) else (delta_step.j0 k a0 bt223.1 bt223.2.1 (IntKind.u64.wrap (Int.tdiv bt223.1 2)) true))
theorem delta_step.mono_l : ∀ k, (∀ y0 y1 y2 y3 y4, LeO (delta_step.j0 k y0 y1 y2 y3 y4) (delta_step.j0 (k + 1) y0 y1 y2 y3 y4))
  | 0 => fun _ _ _ _ _ r h => by simp [delta_step.j0] at h
  | k + 1 => by
    have ih0 := delta_step.mono_l k
    · intro y0 y1 y2 y3 y4
      unfold delta_step.j0
      repeat' first
      | (with_reducible exact ih0 _ _ _ _ _)
      | (with_reducible exact varint_Get.mono _ _)
      | (with_reducible exact LeO.refl _)
      | (with_reducible exact LeO.none _)
      | (with_reducible refine LeO.ite ?_ ?_)
      | (with_reducible refine LeO.bind ?_ (fun _ => ?_))
      | exact ih0 _ _ _ _ _
      | exact varint_Get.mono _ _
      | exact LeO.none _
      | refine LeO.ite ?_ ?_
      | refine LeO.bind ?_ (fun _ => ?_)
theorem delta_step.mono : ∀ a0 a1 k, LeO (delta_step.f k a0 a1) (delta_step.f (k + 1) a0 a1) := by
  intro a0 a1 k
  have ih0 := delta_step.mono_l k
  unfold delta_step.f
  repeat' first
      | (with_reducible exact ih0 _ _ _ _ _)
      | (with_reducible exact varint_Get.mono _ _)
      | (with_reducible exact LeO.refl _)
      | (with_reducible exact LeO.none _)
      | (with_reducible refine LeO.ite ?_ ?_)
      | (with_reducible refine LeO.bind ?_ (fun _ => ?_))
      | exact ih0 _ _ _ _ _
      | exact varint_Get.mono _ _
      | exact LeO.none _
      | refine LeO.ite ?_ ?_
      | refine LeO.bind ?_ (fun _ => ?_)
set_option maxHeartbeats 8000000 in
set_option maxRecDepth 100000 in
theorem delta_step.calls (k : Nat) (a0 : ByteArray) (a1 : ByteArray) (r1 : ByteArray) (r2 : ByteArray) (w : World) (h : delta_step.f k a0 a1 = some (r1, r2)) :
    Calls Try.prog 46 #[.string a0, .string a1] w fun e w' => e = .returned (.tuple #[.string r1, .string r2]) ∧ Below w.heap.size w w' := by
  have HB := Aside0.mk (Below.refl w.heap.size w)
  have H : ((varint_Get.f k a1).bind fun bt223 => (if bt223.2.2 = 0 then (delta_step.j0 k a0 bt223.1 bt223.2.1 (IntKind.u64.wrap (Int.tdiv bt223.1 2)) ((IntKind.u64.wrap (Int.tdiv bt223.1 2)) == 0)) else (delta_step.j0 k a0 bt223.1 bt223.2.1 (IntKind.u64.wrap (Int.tdiv bt223.1 2)) true))) = some (r1, r2) := h
  clear h
  replace H := Option.bind_eq_some_iff.mp H
  obtain ⟨⟨t223, t224, t225⟩, A30, H⟩ := H
  replace H : (if t225 = 0 then (delta_step.j0 k a0 t223 t224 (IntKind.u64.wrap (Int.tdiv t223 2)) ((IntKind.u64.wrap (Int.tdiv t223 2)) == 0)) else (delta_step.j0 k a0 t223 t224 (IntKind.u64.wrap (Int.tdiv t223 2)) true)) = some (r1, r2) := H
  have A3 := Aside0.mk A30
  clear A30
  have HC4 := Aside0.mk H
  clear H
  go_enter Try.func46, Try.ntmps46
  go_upto_region 3 with (first | (go_at_call 23; (with_reducible refine (varint_Get.calls k a1 t223 t224 t225 _ A3.out).mono ?_); rintro e w5 ⟨rfl, hb⟩; have n0_ := Aside0.mk (below_step (by repeat (first | (with_reducible first | exact HB.out | apply below_alloc | apply pw_below_drewN | apply below_drew1) | exact HB.out)) hb); clear HB; have HB := n0_; clear n0_; (try clear hb); (try clear hb2); (try clear hk); (try clear hi)))
  repeat (go_quiet (first | (go_at_call 23; (with_reducible refine (varint_Get.calls k a1 t223 t224 t225 _ A3.out).mono ?_); rintro e w5 ⟨rfl, hb⟩; have n0_ := Aside0.mk (below_step (by repeat (first | (with_reducible first | exact HB.out | apply below_alloc | apply pw_below_drewN | apply below_drew1) | exact HB.out)) hb); clear HB; have HB := n0_; clear n0_; (try clear hb); (try clear hb2); (try clear hk); (try clear hi))); go_upto_region 3 with (first | (go_at_call 23; (with_reducible refine (varint_Get.calls k a1 t223 t224 t225 _ A3.out).mono ?_); rintro e w5 ⟨rfl, hb⟩; have n0_ := Aside0.mk (below_step (by repeat (first | (with_reducible first | exact HB.out | apply below_alloc | apply pw_below_drewN | apply below_drew1) | exact HB.out)) hb); clear HB; have HB := n0_; clear n0_; (try clear hb); (try clear hb2); (try clear hk); (try clear hi))))
  (try simp only [Act.put, List.setIfInBounds_toArray, List.set_cons_zero, List.set_cons_succ])
  go_cut [24] (fun v24 wc => ∃ (kq : Nat) (x24_3 : Bool), v24 = .bool x24_3 ∧ Aside0 (delta_step.j0 kq a0 t223 t224 (IntKind.u64.wrap (Int.tdiv t223 2)) x24_3 = some (r1, r2)) ∧ Aside0 (kq ≤ k) ∧ Aside0 (Below w.heap.size w wc))
  case first =>
    have H := HC4.out
    clear HC4
    by_cases c6 : t225 = 0
    · rw [if_pos c6] at H
      have c6b0 : (t225 == 0) = true := beq_iff_eq.mpr c6
      have c6b1 : (t225 != 0) = false := bne_eq_false_iff_eq.mpr c6
      clear c6
      (first | rw [c6b0] | (simp only [i64_w, i32_w]; rw [c6b0]) | skip)
      have H' := Aside0.mk H
      clear H
      go_wp2
      repeat (go_quiet (fail); try go_wp2)
      go_meet
      case rel => exact ⟨_, (((IntKind.u64.wrap (Int.tdiv t223 2)) == 0)), (by first | rfl | (simp; done) | (simp; omega) | (simp [*]; done)), H', ⟨by first | omega | exact Nat.le_refl _⟩, ⟨by repeat (first | (with_reducible first | exact HB.out | apply below_alloc | apply pw_below_drewN | apply below_drew1) | exact HB.out)⟩⟩
    · rw [if_neg c6] at H
      have c6b0 : (t225 == 0) = false := beq_eq_false_iff_ne.mpr c6
      have c6b1 : (t225 != 0) = true := bne_iff_ne.mpr c6
      (first | rw [c6b0] | (simp only [i64_w, i32_w]; rw [c6b0]) | skip)
      have H' := Aside0.mk H
      clear H
      go_wp2
      repeat (go_quiet (fail); try go_wp2)
      go_meet
      case rel => exact ⟨_, (true), (by first | rfl | (simp; done) | (simp; omega) | (simp [*]; done)), H', ⟨by first | omega | exact Nat.le_refl _⟩, ⟨by repeat (first | (with_reducible first | exact HB.out | apply below_alloc | apply pw_below_drewN | apply below_drew1) | exact HB.out)⟩⟩
  case rest =>
    clear HC4
    try clear p2
    try clear c4
    try clear c6
    try clear c6b0
    try clear c6b1
    obtain ⟨kq, x24_3, rfl, HA, HJ3, HB⟩ := hcut
    cases kq with
    | zero => exact absurd HA.out (by simp [delta_step.j0])
    | succ kj3 =>
      have H := HA.out
      clear HA
      simp only [delta_step.j0] at H
      by_cases c7 : x24_3 = true
      · subst c7
        have H1 : (some ((⟨#[]⟩ : ByteArray), (⟨#[]⟩ : ByteArray))) = some (r1, r2) := by rw [if_pos rfl] at H; exact H
        clear H
        have H := H1
        clear H1
        simp only [Option.some.injEq, Prod.mk.injEq] at H
        obtain ⟨rfl, rfl⟩ := H
        go_wp2
        repeat (go_quiet (fail); try go_wp2)
        go_ret2
        exact ⟨by first | rfl | (simp [errW_none, errW_some] <;> rfl) | (simp [*, errW_none, errW_some] <;> rfl), by repeat (first | (with_reducible first | exact HB.out | apply below_alloc | apply pw_below_drewN | apply below_drew1) | exact HB.out)⟩
      · replace c7 := Bool.eq_false_iff.mpr c7
        subst c7
        have H1 : (if (Int.tmod t223 2) = 0 then (if (IntKind.u64.wrap (Int.tdiv t223 2)) > (IntKind.u64.wrap ((t224.size : Int))) then (some ((⟨#[]⟩ : ByteArray), (⟨#[]⟩ : ByteArray))) else (if 0 ≤ (IntKind.u64.wrap (Int.tdiv t223 2)) then (if (IntKind.u64.wrap (Int.tdiv t223 2)) ≤ (t224.size : Int) then (some (t224.extract 0 ((IntKind.u64.wrap (Int.tdiv t223 2)) : Int).toNat, t224.extract ((IntKind.u64.wrap (Int.tdiv t223 2)) : Int).toNat t224.size)) else (none)) else (none))) else ((varint_Get.f kj3 t224).bind fun bt226 => (if bt226.2.2 = 0 then (if bt226.1 > (IntKind.u64.wrap ((a0.size : Int))) then (some ((⟨#[]⟩ : ByteArray), (⟨#[]⟩ : ByteArray))) else (if (IntKind.u64.wrap (Int.tdiv t223 2)) > (IntKind.u64.wrap ((IntKind.u64.wrap ((a0.size : Int))) - bt226.1)) then (some ((⟨#[]⟩ : ByteArray), (⟨#[]⟩ : ByteArray))) else (if 0 ≤ bt226.1 then (if bt226.1 ≤ (IntKind.u64.wrap (bt226.1 + (IntKind.u64.wrap (Int.tdiv t223 2)))) then (if (IntKind.u64.wrap (bt226.1 + (IntKind.u64.wrap (Int.tdiv t223 2)))) ≤ (a0.size : Int) then (some (a0.extract (bt226.1 : Int).toNat ((IntKind.u64.wrap (bt226.1 + (IntKind.u64.wrap (Int.tdiv t223 2)))) : Int).toNat, bt226.2.1)) else (none)) else (none)) else (none)))) else (some ((⟨#[]⟩ : ByteArray), (⟨#[]⟩ : ByteArray)))))) = some (r1, r2) := by rw [if_neg (show ¬ (false = true) by decide)] at H; exact H
        clear H
        have H := H1
        clear H1
        by_cases c8 : (Int.tmod t223 2) = 0
        · rw [if_pos c8] at H
          have c8b0 : ((Int.tmod t223 2) == 0) = true := beq_iff_eq.mpr c8
          have c8b1 : ((Int.tmod t223 2) != 0) = false := bne_eq_false_iff_eq.mpr c8
          clear c8
          by_cases c9 : (IntKind.u64.wrap (Int.tdiv t223 2)) > (IntKind.u64.wrap ((t224.size : Int)))
          · rw [if_pos c9] at H
            have c9b0 : decide ((IntKind.u64.wrap ((t224.size : Int))) < (IntKind.u64.wrap (Int.tdiv t223 2))) = true := decide_eq_true c9
            clear c9
            simp only [Option.some.injEq, Prod.mk.injEq] at H
            obtain ⟨rfl, rfl⟩ := H
            go_wp2
            repeat (go_quiet (fail); try go_wp2)
            go_ret2
            exact ⟨by first | rfl | (simp [errW_none, errW_some] <;> rfl) | (simp [*, errW_none, errW_some] <;> rfl), by repeat (first | (with_reducible first | exact HB.out | apply below_alloc | apply pw_below_drewN | apply below_drew1) | exact HB.out)⟩
          · rw [if_neg c9] at H
            have c9b0 : decide ((IntKind.u64.wrap ((t224.size : Int))) < (IntKind.u64.wrap (Int.tdiv t223 2))) = false := decide_eq_false c9
            clear c9
            obtain ⟨ji10, hji10⟩ : ∃ j_ : Int, (IntKind.u64.wrap (Int.tdiv t223 2)) = j_ := ⟨_, rfl⟩
            replace H : (if 0 ≤ (ji10) then (if (ji10) ≤ (t224.size : Int) then (some (t224.extract 0 ((ji10) : Int).toNat, t224.extract ((ji10) : Int).toNat t224.size)) else (none)) else (none)) = some (r1, r2) := by first | (rw [hji10] at H; exact H) | (simp only [hji10] at H ⊢; exact H)
            (try rw [hji10] at c9b0)
            by_cases c11 : 0 ≤ (ji10)
            · rw [if_pos c11] at H
              have c11b0 := eq_true c11
              have c11b1 : decide (0 ≤ (ji10)) = true := decide_eq_true c11
              clear c11
              by_cases c12 : (ji10) ≤ (t224.size : Int)
              · rw [if_pos c12] at H
                have c12b0 := eq_true c12
                have c12b1 : decide ((ji10) ≤ (t224.size : Int)) = true := decide_eq_true c12
                clear c12
                have c13b0 := eq_true (of_decide_eq_true (by first | (with_reducible assumption) | assumption) : 0 ≤ (ji10))
                have c14b0 := eq_true (of_decide_eq_true (by first | (with_reducible assumption) | assumption) : (ji10) ≤ (t224.size : Int))
                simp only [Option.some.injEq, Prod.mk.injEq] at H
                obtain ⟨rfl, rfl⟩ := H
                go_wp2
                repeat (go_quiet (fail); try go_wp2)
                go_ret2
                exact ⟨by first | rfl | (simp [errW_none, errW_some] <;> rfl) | (simp only [← hji10]; first | rfl | (simp [errW_none, errW_some] <;> rfl)) | (simp [*, errW_none, errW_some] <;> rfl), by repeat (first | (with_reducible first | exact HB.out | apply below_alloc | apply pw_below_drewN | apply below_drew1) | exact HB.out)⟩
              · rw [if_neg c12] at H
                exact absurd H (by simp)
            · rw [if_neg c11] at H
              exact absurd H (by simp)
        · rw [if_neg c8] at H
          have c8b0 : ((Int.tmod t223 2) == 0) = false := beq_eq_false_iff_ne.mpr c8
          have c8b1 : ((Int.tmod t223 2) != 0) = true := bne_iff_ne.mpr c8
          replace H := Option.bind_eq_some_iff.mp H
          obtain ⟨⟨t226, t227, t228⟩, A150, H⟩ := H
          replace H : (if t228 = 0 then (if t226 > (IntKind.u64.wrap ((a0.size : Int))) then (some ((⟨#[]⟩ : ByteArray), (⟨#[]⟩ : ByteArray))) else (if (IntKind.u64.wrap (Int.tdiv t223 2)) > (IntKind.u64.wrap ((IntKind.u64.wrap ((a0.size : Int))) - t226)) then (some ((⟨#[]⟩ : ByteArray), (⟨#[]⟩ : ByteArray))) else (if 0 ≤ t226 then (if t226 ≤ (IntKind.u64.wrap (t226 + (IntKind.u64.wrap (Int.tdiv t223 2)))) then (if (IntKind.u64.wrap (t226 + (IntKind.u64.wrap (Int.tdiv t223 2)))) ≤ (a0.size : Int) then (some (a0.extract (t226 : Int).toNat ((IntKind.u64.wrap (t226 + (IntKind.u64.wrap (Int.tdiv t223 2)))) : Int).toNat, t227)) else (none)) else (none)) else (none)))) else (some ((⟨#[]⟩ : ByteArray), (⟨#[]⟩ : ByteArray)))) = some (r1, r2) := H
          have A15 := Aside0.mk A150
          clear A150
          by_cases c16 : t228 = 0
          · rw [if_pos c16] at H
            have c16b0 : (t228 == 0) = true := beq_iff_eq.mpr c16
            have c16b1 : (t228 != 0) = false := bne_eq_false_iff_eq.mpr c16
            clear c16
            by_cases c17 : t226 > (IntKind.u64.wrap ((a0.size : Int)))
            · rw [if_pos c17] at H
              have c17b0 : decide ((IntKind.u64.wrap ((a0.size : Int))) < t226) = true := decide_eq_true c17
              clear c17
              simp only [Option.some.injEq, Prod.mk.injEq] at H
              obtain ⟨rfl, rfl⟩ := H
              go_wp2_with (first | (go_at_call 23; (with_reducible refine (varint_Get.calls kj3 t224 t226 t227 t228 _ A15.out).mono ?_); rintro e w18 ⟨rfl, hb⟩; have n0_ := Aside0.mk (below_step (by repeat (first | (with_reducible first | exact HB.out | apply below_alloc | apply pw_below_drewN | apply below_drew1) | exact HB.out)) hb); clear HB; have HB := n0_; clear n0_; (try clear hb); (try clear hb2); (try clear hk); (try clear hi)))
              repeat (go_quiet (first | (go_at_call 23; (with_reducible refine (varint_Get.calls kj3 t224 t226 t227 t228 _ A15.out).mono ?_); rintro e w18 ⟨rfl, hb⟩; have n0_ := Aside0.mk (below_step (by repeat (first | (with_reducible first | exact HB.out | apply below_alloc | apply pw_below_drewN | apply below_drew1) | exact HB.out)) hb); clear HB; have HB := n0_; clear n0_; (try clear hb); (try clear hb2); (try clear hk); (try clear hi))); try go_wp2_with (first | (go_at_call 23; (with_reducible refine (varint_Get.calls kj3 t224 t226 t227 t228 _ A15.out).mono ?_); rintro e w18 ⟨rfl, hb⟩; have n0_ := Aside0.mk (below_step (by repeat (first | (with_reducible first | exact HB.out | apply below_alloc | apply pw_below_drewN | apply below_drew1) | exact HB.out)) hb); clear HB; have HB := n0_; clear n0_; (try clear hb); (try clear hb2); (try clear hk); (try clear hi))))
              go_ret2
              exact ⟨by first | rfl | (simp [errW_none, errW_some] <;> rfl) | (simp [*, errW_none, errW_some] <;> rfl), by repeat (first | (with_reducible first | exact HB.out | apply below_alloc | apply pw_below_drewN | apply below_drew1) | exact HB.out)⟩
            · rw [if_neg c17] at H
              have c17b0 : decide ((IntKind.u64.wrap ((a0.size : Int))) < t226) = false := decide_eq_false c17
              clear c17
              by_cases c19 : (IntKind.u64.wrap (Int.tdiv t223 2)) > (IntKind.u64.wrap ((IntKind.u64.wrap ((a0.size : Int))) - t226))
              · rw [if_pos c19] at H
                have c19b0 : decide ((IntKind.u64.wrap ((IntKind.u64.wrap ((a0.size : Int))) - t226)) < (IntKind.u64.wrap (Int.tdiv t223 2))) = true := decide_eq_true c19
                clear c19
                simp only [Option.some.injEq, Prod.mk.injEq] at H
                obtain ⟨rfl, rfl⟩ := H
                go_wp2_with (first | (go_at_call 23; (with_reducible refine (varint_Get.calls kj3 t224 t226 t227 t228 _ A15.out).mono ?_); rintro e w20 ⟨rfl, hb⟩; have n0_ := Aside0.mk (below_step (by repeat (first | (with_reducible first | exact HB.out | apply below_alloc | apply pw_below_drewN | apply below_drew1) | exact HB.out)) hb); clear HB; have HB := n0_; clear n0_; (try clear hb); (try clear hb2); (try clear hk); (try clear hi)))
                repeat (go_quiet (first | (go_at_call 23; (with_reducible refine (varint_Get.calls kj3 t224 t226 t227 t228 _ A15.out).mono ?_); rintro e w20 ⟨rfl, hb⟩; have n0_ := Aside0.mk (below_step (by repeat (first | (with_reducible first | exact HB.out | apply below_alloc | apply pw_below_drewN | apply below_drew1) | exact HB.out)) hb); clear HB; have HB := n0_; clear n0_; (try clear hb); (try clear hb2); (try clear hk); (try clear hi))); try go_wp2_with (first | (go_at_call 23; (with_reducible refine (varint_Get.calls kj3 t224 t226 t227 t228 _ A15.out).mono ?_); rintro e w20 ⟨rfl, hb⟩; have n0_ := Aside0.mk (below_step (by repeat (first | (with_reducible first | exact HB.out | apply below_alloc | apply pw_below_drewN | apply below_drew1) | exact HB.out)) hb); clear HB; have HB := n0_; clear n0_; (try clear hb); (try clear hb2); (try clear hk); (try clear hi))))
                go_ret2
                exact ⟨by first | rfl | (simp [errW_none, errW_some] <;> rfl) | (simp [*, errW_none, errW_some] <;> rfl), by repeat (first | (with_reducible first | exact HB.out | apply below_alloc | apply pw_below_drewN | apply below_drew1) | exact HB.out)⟩
              · rw [if_neg c19] at H
                have c19b0 : decide ((IntKind.u64.wrap ((IntKind.u64.wrap ((a0.size : Int))) - t226)) < (IntKind.u64.wrap (Int.tdiv t223 2))) = false := decide_eq_false c19
                clear c19
                by_cases c21 : 0 ≤ t226
                · rw [if_pos c21] at H
                  have c21b0 := eq_true c21
                  have c21b1 : decide (0 ≤ t226) = true := decide_eq_true c21
                  clear c21
                  by_cases c22 : t226 ≤ (IntKind.u64.wrap (t226 + (IntKind.u64.wrap (Int.tdiv t223 2))))
                  · rw [if_pos c22] at H
                    have c22b0 := eq_true c22
                    have c22b1 : decide (t226 ≤ (IntKind.u64.wrap (t226 + (IntKind.u64.wrap (Int.tdiv t223 2))))) = true := decide_eq_true c22
                    by_cases c23 : (IntKind.u64.wrap (t226 + (IntKind.u64.wrap (Int.tdiv t223 2)))) ≤ (a0.size : Int)
                    · rw [if_pos c23] at H
                      have c23b0 := eq_true c23
                      have c23b1 : decide ((IntKind.u64.wrap (t226 + (IntKind.u64.wrap (Int.tdiv t223 2)))) ≤ (a0.size : Int)) = true := decide_eq_true c23
                      simp only [Option.some.injEq, Prod.mk.injEq] at H
                      obtain ⟨rfl, rfl⟩ := H
                      go_wp2_with (first | (go_at_call 23; (with_reducible refine (varint_Get.calls kj3 t224 t226 t227 t228 _ A15.out).mono ?_); rintro e w24 ⟨rfl, hb⟩; have n0_ := Aside0.mk (below_step (by repeat (first | (with_reducible first | exact HB.out | apply below_alloc | apply pw_below_drewN | apply below_drew1) | exact HB.out)) hb); clear HB; have HB := n0_; clear n0_; (try clear hb); (try clear hb2); (try clear hk); (try clear hi)))
                      repeat (go_quiet (first | (go_at_call 23; (with_reducible refine (varint_Get.calls kj3 t224 t226 t227 t228 _ A15.out).mono ?_); rintro e w24 ⟨rfl, hb⟩; have n0_ := Aside0.mk (below_step (by repeat (first | (with_reducible first | exact HB.out | apply below_alloc | apply pw_below_drewN | apply below_drew1) | exact HB.out)) hb); clear HB; have HB := n0_; clear n0_; (try clear hb); (try clear hb2); (try clear hk); (try clear hi))); try go_wp2_with (first | (go_at_call 23; (with_reducible refine (varint_Get.calls kj3 t224 t226 t227 t228 _ A15.out).mono ?_); rintro e w24 ⟨rfl, hb⟩; have n0_ := Aside0.mk (below_step (by repeat (first | (with_reducible first | exact HB.out | apply below_alloc | apply pw_below_drewN | apply below_drew1) | exact HB.out)) hb); clear HB; have HB := n0_; clear n0_; (try clear hb); (try clear hb2); (try clear hk); (try clear hi))))
                      go_ret2
                      exact ⟨by first | rfl | (simp [errW_none, errW_some] <;> rfl) | (simp [*, errW_none, errW_some] <;> rfl), by repeat (first | (with_reducible first | exact HB.out | apply below_alloc | apply pw_below_drewN | apply below_drew1) | exact HB.out)⟩
                    · rw [if_neg c23] at H
                      exact absurd H (by simp)
                  · rw [if_neg c22] at H
                    exact absurd H (by simp)
                · rw [if_neg c21] at H
                  exact absurd H (by simp)
          · rw [if_neg c16] at H
            have c16b0 : (t228 == 0) = false := beq_eq_false_iff_ne.mpr c16
            have c16b1 : (t228 != 0) = true := bne_iff_ne.mpr c16
            simp only [Option.some.injEq, Prod.mk.injEq] at H
            obtain ⟨rfl, rfl⟩ := H
            go_wp2_with (first | (go_at_call 23; (with_reducible refine (varint_Get.calls kj3 t224 t226 t227 t228 _ A15.out).mono ?_); rintro e w25 ⟨rfl, hb⟩; have n0_ := Aside0.mk (below_step (by repeat (first | (with_reducible first | exact HB.out | apply below_alloc | apply pw_below_drewN | apply below_drew1) | exact HB.out)) hb); clear HB; have HB := n0_; clear n0_; (try clear hb); (try clear hb2); (try clear hk); (try clear hi)))
            repeat (go_quiet (first | (go_at_call 23; (with_reducible refine (varint_Get.calls kj3 t224 t226 t227 t228 _ A15.out).mono ?_); rintro e w25 ⟨rfl, hb⟩; have n0_ := Aside0.mk (below_step (by repeat (first | (with_reducible first | exact HB.out | apply below_alloc | apply pw_below_drewN | apply below_drew1) | exact HB.out)) hb); clear HB; have HB := n0_; clear n0_; (try clear hb); (try clear hb2); (try clear hk); (try clear hi))); try go_wp2_with (first | (go_at_call 23; (with_reducible refine (varint_Get.calls kj3 t224 t226 t227 t228 _ A15.out).mono ?_); rintro e w25 ⟨rfl, hb⟩; have n0_ := Aside0.mk (below_step (by repeat (first | (with_reducible first | exact HB.out | apply below_alloc | apply pw_below_drewN | apply below_drew1) | exact HB.out)) hb); clear HB; have HB := n0_; clear n0_; (try clear hb); (try clear hb2); (try clear hk); (try clear hi))))
            go_ret2
            exact ⟨by first | rfl | (simp [errW_none, errW_some] <;> rfl) | (simp [*, errW_none, errW_some] <;> rfl), by repeat (first | (with_reducible first | exact HB.out | apply below_alloc | apply pw_below_drewN | apply below_drew1) | exact HB.out)⟩

end Go.Proofs.Ytnmnplbjhejejaa.PA
