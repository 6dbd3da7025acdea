-- Written by a turned copy of the printer (wip/patchprint.py of this repo), with contracts of this session beside; Lean checks it.
import Derived.Test.YtnmnplbjhejejaaPAx0
import Derived.Test.YtnmnplbjhejejaaPAx5
import Derived.Test.YtnmnplbjhejejaaPAx6
namespace Go.Proofs.Ytnmnplbjhejejaa.PA
open Go.RowKit Go.Proofs.YtnmnplbjhejejaaW.PrintWords Go.Proofs.YtnmnplbjhejejaaW.PrintLast Go.Proofs.YtnmnplbjhejejaaW.PrintMore
attribute [local go_sem] max2_int min2_int max_two min_two max_three min_three max_four min_four   -- for this text's walks alone
set_option linter.unusedVariables false
set_option linter.unusedSimpArgs false

/-! ### knapsacklaw01_knows: function 27 -/
def knapsacklaw01_knows.f (k : Nat)  : Option (Bool) := (varint_Get.f k (⟨#[128, 0]⟩ : ByteArray)).bind fun bt176 => ((varint_Take.f k (⟨#[2, 97, 98, 99]⟩ : ByteArray)).bind fun bt179 => ((varint_Put.f k 300).bind fun t182 => (if t182.toList = ([172, 2] : List UInt8) then (if bt176.2.2 = 2 then ((varint_Text.f k (⟨#[97, 98]⟩ : ByteArray)).bind fun t183 => (if t183.toList = ([2, 97, 98] : List UInt8) then (if bt179.1.toList = ([97, 98] : List UInt8) then (if bt179.2.1.toList = ([99] : List UInt8) then (some (bt179.2.2 == 0)) else (some false)) else (some false)) else (some false))) else (some false)) else (some false))))
theorem knapsacklaw01_knows.mono : ∀ k, LeO (knapsacklaw01_knows.f k ) (knapsacklaw01_knows.f (k + 1) ) := by
  intro  k
  unfold knapsacklaw01_knows.f
  repeat' first
      | (with_reducible exact varint_Get.mono _ _)
      | (with_reducible exact varint_Put.mono _ _)
      | (with_reducible exact varint_Take.mono _ _)
      | (with_reducible exact varint_Text.mono _ _)
      | (with_reducible exact LeO.refl _)
      | (with_reducible exact LeO.none _)
      | (with_reducible refine LeO.ite ?_ ?_)
      | (with_reducible refine LeO.bind ?_ (fun _ => ?_))
      | exact varint_Get.mono _ _
      | exact varint_Put.mono _ _
      | exact varint_Take.mono _ _
      | exact varint_Text.mono _ _
      | exact LeO.none _
      | refine LeO.ite ?_ ?_
      | refine LeO.bind ?_ (fun _ => ?_)
set_option maxHeartbeats 8000000 in
set_option maxRecDepth 100000 in
theorem knapsacklaw01_knows.calls (k : Nat)  (r : Bool) (w : World) (h : knapsacklaw01_knows.f k  = some r) :
    Calls Try.prog 27 #[] w fun e w' => e = .returned (.bool r) ∧ Below w.heap.size w w' := by
  have HB := Aside0.mk (Below.refl w.heap.size w)
  have H : ((varint_Get.f k (⟨#[128, 0]⟩ : ByteArray)).bind fun bt176 => ((varint_Take.f k (⟨#[2, 97, 98, 99]⟩ : ByteArray)).bind fun bt179 => ((varint_Put.f k 300).bind fun t182 => (if t182.toList = ([172, 2] : List UInt8) then (if bt176.2.2 = 2 then ((varint_Text.f k (⟨#[97, 98]⟩ : ByteArray)).bind fun t183 => (if t183.toList = ([2, 97, 98] : List UInt8) then (if bt179.1.toList = ([97, 98] : List UInt8) then (if bt179.2.1.toList = ([99] : List UInt8) then (some (bt179.2.2 == 0)) else (some false)) else (some false)) else (some false))) else (some false)) else (some false))))) = some r := h
  clear h
  replace H := Option.bind_eq_some_iff.mp H
  obtain ⟨⟨t176, t177, t178⟩, A10, H⟩ := H
  replace H : ((varint_Take.f k (⟨#[2, 97, 98, 99]⟩ : ByteArray)).bind fun bt179 => ((varint_Put.f k 300).bind fun t182 => (if t182.toList = ([172, 2] : List UInt8) then (if t178 = 2 then ((varint_Text.f k (⟨#[97, 98]⟩ : ByteArray)).bind fun t183 => (if t183.toList = ([2, 97, 98] : List UInt8) then (if bt179.1.toList = ([97, 98] : List UInt8) then (if bt179.2.1.toList = ([99] : List UInt8) then (some (bt179.2.2 == 0)) else (some false)) else (some false)) else (some false))) else (some false)) else (some false)))) = some r := H
  have A1 := Aside0.mk A10
  clear A10
  replace H := Option.bind_eq_some_iff.mp H
  obtain ⟨⟨t179, t180, t181⟩, A20, H⟩ := H
  replace H : ((varint_Put.f k 300).bind fun t182 => (if t182.toList = ([172, 2] : List UInt8) then (if t178 = 2 then ((varint_Text.f k (⟨#[97, 98]⟩ : ByteArray)).bind fun t183 => (if t183.toList = ([2, 97, 98] : List UInt8) then (if t179.toList = ([97, 98] : List UInt8) then (if t180.toList = ([99] : List UInt8) then (some (t181 == 0)) else (some false)) else (some false)) else (some false))) else (some false)) else (some false))) = some r := H
  have A2 := Aside0.mk A20
  clear A20
  replace H := Option.bind_eq_some_iff.mp H
  obtain ⟨t182, A30, H⟩ := H
  replace H : (if t182.toList = ([172, 2] : List UInt8) then (if t178 = 2 then ((varint_Text.f k (⟨#[97, 98]⟩ : ByteArray)).bind fun t183 => (if t183.toList = ([2, 97, 98] : List UInt8) then (if t179.toList = ([97, 98] : List UInt8) then (if t180.toList = ([99] : List UInt8) then (some (t181 == 0)) else (some false)) else (some false)) else (some false))) else (some false)) else (some false)) = some r := H
  have A3 := Aside0.mk A30
  clear A30
  by_cases c4 : t182.toList = ([172, 2] : List UInt8)
  · rw [if_pos c4] at H
    have c4b0 : (t182.toList == ([172, 2] : List UInt8)) = true := beq_iff_eq.mpr c4
    have c4b1 : (t182.toList != ([172, 2] : List UInt8)) = false := bne_eq_false_iff_eq.mpr c4
    clear c4
    by_cases c5 : t178 = 2
    · rw [if_pos c5] at H
      have c5b0 : (t178 == 2) = true := beq_iff_eq.mpr c5
      have c5b1 : (t178 != 2) = false := bne_eq_false_iff_eq.mpr c5
      clear c5
      replace H := Option.bind_eq_some_iff.mp H
      obtain ⟨t183, A60, H⟩ := H
      replace H : (if t183.toList = ([2, 97, 98] : List UInt8) then (if t179.toList = ([97, 98] : List UInt8) then (if t180.toList = ([99] : List UInt8) then (some (t181 == 0)) else (some false)) else (some false)) else (some false)) = some r := H
      have A6 := Aside0.mk A60
      clear A60
      by_cases c7 : t183.toList = ([2, 97, 98] : List UInt8)
      · rw [if_pos c7] at H
        have c7b0 : (t183.toList == ([2, 97, 98] : List UInt8)) = true := beq_iff_eq.mpr c7
        have c7b1 : (t183.toList != ([2, 97, 98] : List UInt8)) = false := bne_eq_false_iff_eq.mpr c7
        clear c7
        by_cases c8 : t179.toList = ([97, 98] : List UInt8)
        · rw [if_pos c8] at H
          have c8b0 : (t179.toList == ([97, 98] : List UInt8)) = true := beq_iff_eq.mpr c8
          have c8b1 : (t179.toList != ([97, 98] : List UInt8)) = false := bne_eq_false_iff_eq.mpr c8
          clear c8
          by_cases c9 : t180.toList = ([99] : List UInt8)
          · rw [if_pos c9] at H
            have c9b0 : (t180.toList == ([99] : List UInt8)) = true := beq_iff_eq.mpr c9
            have c9b1 : (t180.toList != ([99] : List UInt8)) = false := bne_eq_false_iff_eq.mpr c9
            clear c9
            obtain rfl := Option.some.inj H
            go_enter Try.func27, Try.ntmps27
            go_wp2_with (first | ((with_reducible refine gate_callee (f := 23) rfl ?_); refine goesL_ (some 8) rfl rfl Try.func23 (by kernel_rfl) rfl #[.string (⟨#[128, 0]⟩ : ByteArray)] rfl (by (try simp only [List.map_toArray, List.map_cons, List.map_nil]); first | done | rfl | (simp only [List.length_drop, List.length_take]; rfl)) ?_; (with_reducible refine (varint_Get.calls k (⟨#[128, 0]⟩ : ByteArray) t176 t177 t178 _ A1.out).mono ?_); rintro e w10 ⟨rfl, hb⟩; refine ⟨_, rfl, ?_⟩; have n0_ := Aside0.mk (below_step (by repeat (first | (with_reducible first | exact HB.out | apply below_alloc | apply pw_below_drewN | apply below_drew1) | exact HB.out)) hb); clear HB; have HB := n0_; clear n0_; (try clear hb); (try clear hb2); (try clear hk); (try clear hi)) | ((with_reducible refine gate_callee (f := 25) rfl ?_); refine goesL_ (some 13) rfl rfl Try.func25 (by kernel_rfl) rfl #[.string (⟨#[2, 97, 98, 99]⟩ : ByteArray)] rfl (by (try simp only [List.map_toArray, List.map_cons, List.map_nil]); first | done | rfl | (simp only [List.length_drop, List.length_take]; rfl)) ?_; (with_reducible refine (varint_Take.calls k (⟨#[2, 97, 98, 99]⟩ : ByteArray) t179 t180 t181 _ A2.out).mono ?_); rintro e w11 ⟨rfl, hb⟩; refine ⟨_, rfl, ?_⟩; have n0_ := Aside0.mk (below_step (by repeat (first | (with_reducible first | exact HB.out | apply below_alloc | apply pw_below_drewN | apply below_drew1) | exact HB.out)) hb); clear HB; have HB := n0_; clear n0_; (try clear hb); (try clear hb2); (try clear hk); (try clear hi)) | ((with_reducible refine gate_callee (f := 19) rfl ?_); refine goesL_ (some 17) rfl rfl Try.func19 (by kernel_rfl) rfl #[.int .u64 300] rfl (by (try simp only [List.map_toArray, List.map_cons, List.map_nil]); first | done | rfl | (simp only [List.length_drop, List.length_take]; rfl)) ?_; (with_reducible refine (varint_Put.calls k 300 t182 _ A3.out).mono ?_); rintro e w12 ⟨rfl, hb⟩; refine ⟨_, rfl, ?_⟩; have n0_ := Aside0.mk (below_step (by repeat (first | (with_reducible first | exact HB.out | apply below_alloc | apply pw_below_drewN | apply below_drew1) | exact HB.out)) hb); clear HB; have HB := n0_; clear n0_; (try clear hb); (try clear hb2); (try clear hk); (try clear hi)) | (go_at_call 21; (with_reducible refine (varint_Text.calls k (⟨#[97, 98]⟩ : ByteArray) t183 _ A6.out).mono ?_); rintro e w13 ⟨rfl, hb⟩; have n0_ := Aside0.mk (below_step (by repeat (first | (with_reducible first | exact HB.out | apply below_alloc | apply pw_below_drewN | apply below_drew1) | exact HB.out)) hb); clear HB; have HB := n0_; clear n0_; (try clear hb); (try clear hb2); (try clear hk); (try clear hi)))
            go_ret
            exact ⟨by first | rfl | (simp [errW_none, errW_some] <;> rfl) | (simp [*, errW_none, errW_some] <;> rfl), by repeat (first | (with_reducible first | exact HB.out | apply below_alloc | apply pw_below_drewN | apply below_drew1) | exact HB.out)⟩
          · rw [if_neg c9] at H
            have c9b0 : (t180.toList == ([99] : List UInt8)) = false := beq_eq_false_iff_ne.mpr c9
            have c9b1 : (t180.toList != ([99] : List UInt8)) = true := bne_iff_ne.mpr c9
            obtain rfl := Option.some.inj H
            go_enter Try.func27, Try.ntmps27
            go_wp2_with (first | ((with_reducible refine gate_callee (f := 23) rfl ?_); refine goesL_ (some 8) rfl rfl Try.func23 (by kernel_rfl) rfl #[.string (⟨#[128, 0]⟩ : ByteArray)] rfl (by (try simp only [List.map_toArray, List.map_cons, List.map_nil]); first | done | rfl | (simp only [List.length_drop, List.length_take]; rfl)) ?_; (with_reducible refine (varint_Get.calls k (⟨#[128, 0]⟩ : ByteArray) t176 t177 t178 _ A1.out).mono ?_); rintro e w14 ⟨rfl, hb⟩; refine ⟨_, rfl, ?_⟩; have n0_ := Aside0.mk (below_step (by repeat (first | (with_reducible first | exact HB.out | apply below_alloc | apply pw_below_drewN | apply below_drew1) | exact HB.out)) hb); clear HB; have HB := n0_; clear n0_; (try clear hb); (try clear hb2); (try clear hk); (try clear hi)) | ((with_reducible refine gate_callee (f := 25) rfl ?_); refine goesL_ (some 13) rfl rfl Try.func25 (by kernel_rfl) rfl #[.string (⟨#[2, 97, 98, 99]⟩ : ByteArray)] rfl (by (try simp only [List.map_toArray, List.map_cons, List.map_nil]); first | done | rfl | (simp only [List.length_drop, List.length_take]; rfl)) ?_; (with_reducible refine (varint_Take.calls k (⟨#[2, 97, 98, 99]⟩ : ByteArray) t179 t180 t181 _ A2.out).mono ?_); rintro e w15 ⟨rfl, hb⟩; refine ⟨_, rfl, ?_⟩; have n0_ := Aside0.mk (below_step (by repeat (first | (with_reducible first | exact HB.out | apply below_alloc | apply pw_below_drewN | apply below_drew1) | exact HB.out)) hb); clear HB; have HB := n0_; clear n0_; (try clear hb); (try clear hb2); (try clear hk); (try clear hi)) | ((with_reducible refine gate_callee (f := 19) rfl ?_); refine goesL_ (some 17) rfl rfl Try.func19 (by kernel_rfl) rfl #[.int .u64 300] rfl (by (try simp only [List.map_toArray, List.map_cons, List.map_nil]); first | done | rfl | (simp only [List.length_drop, List.length_take]; rfl)) ?_; (with_reducible refine (varint_Put.calls k 300 t182 _ A3.out).mono ?_); rintro e w16 ⟨rfl, hb⟩; refine ⟨_, rfl, ?_⟩; have n0_ := Aside0.mk (below_step (by repeat (first | (with_reducible first | exact HB.out | apply below_alloc | apply pw_below_drewN | apply below_drew1) | exact HB.out)) hb); clear HB; have HB := n0_; clear n0_; (try clear hb); (try clear hb2); (try clear hk); (try clear hi)) | (go_at_call 21; (with_reducible refine (varint_Text.calls k (⟨#[97, 98]⟩ : ByteArray) t183 _ A6.out).mono ?_); rintro e w17 ⟨rfl, hb⟩; have n0_ := Aside0.mk (below_step (by repeat (first | (with_reducible first | exact HB.out | apply below_alloc | apply pw_below_drewN | apply below_drew1) | exact HB.out)) hb); clear HB; have HB := n0_; clear n0_; (try clear hb); (try clear hb2); (try clear hk); (try clear hi)))
            go_ret
            exact ⟨by first | rfl | (simp [errW_none, errW_some] <;> rfl) | (simp [*, errW_none, errW_some] <;> rfl), by repeat (first | (with_reducible first | exact HB.out | apply below_alloc | apply pw_below_drewN | apply below_drew1) | exact HB.out)⟩
        · rw [if_neg c8] at H
          have c8b0 : (t179.toList == ([97, 98] : List UInt8)) = false := beq_eq_false_iff_ne.mpr c8
          have c8b1 : (t179.toList != ([97, 98] : List UInt8)) = true := bne_iff_ne.mpr c8
          obtain rfl := Option.some.inj H
          go_enter Try.func27, Try.ntmps27
          go_wp2_with (first | ((with_reducible refine gate_callee (f := 23) rfl ?_); refine goesL_ (some 8) rfl rfl Try.func23 (by kernel_rfl) rfl #[.string (⟨#[128, 0]⟩ : ByteArray)] rfl (by (try simp only [List.map_toArray, List.map_cons, List.map_nil]); first | done | rfl | (simp only [List.length_drop, List.length_take]; rfl)) ?_; (with_reducible refine (varint_Get.calls k (⟨#[128, 0]⟩ : ByteArray) t176 t177 t178 _ A1.out).mono ?_); rintro e w18 ⟨rfl, hb⟩; refine ⟨_, rfl, ?_⟩; have n0_ := Aside0.mk (below_step (by repeat (first | (with_reducible first | exact HB.out | apply below_alloc | apply pw_below_drewN | apply below_drew1) | exact HB.out)) hb); clear HB; have HB := n0_; clear n0_; (try clear hb); (try clear hb2); (try clear hk); (try clear hi)) | ((with_reducible refine gate_callee (f := 25) rfl ?_); refine goesL_ (some 13) rfl rfl Try.func25 (by kernel_rfl) rfl #[.string (⟨#[2, 97, 98, 99]⟩ : ByteArray)] rfl (by (try simp only [List.map_toArray, List.map_cons, List.map_nil]); first | done | rfl | (simp only [List.length_drop, List.length_take]; rfl)) ?_; (with_reducible refine (varint_Take.calls k (⟨#[2, 97, 98, 99]⟩ : ByteArray) t179 t180 t181 _ A2.out).mono ?_); rintro e w19 ⟨rfl, hb⟩; refine ⟨_, rfl, ?_⟩; have n0_ := Aside0.mk (below_step (by repeat (first | (with_reducible first | exact HB.out | apply below_alloc | apply pw_below_drewN | apply below_drew1) | exact HB.out)) hb); clear HB; have HB := n0_; clear n0_; (try clear hb); (try clear hb2); (try clear hk); (try clear hi)) | ((with_reducible refine gate_callee (f := 19) rfl ?_); refine goesL_ (some 17) rfl rfl Try.func19 (by kernel_rfl) rfl #[.int .u64 300] rfl (by (try simp only [List.map_toArray, List.map_cons, List.map_nil]); first | done | rfl | (simp only [List.length_drop, List.length_take]; rfl)) ?_; (with_reducible refine (varint_Put.calls k 300 t182 _ A3.out).mono ?_); rintro e w20 ⟨rfl, hb⟩; refine ⟨_, rfl, ?_⟩; have n0_ := Aside0.mk (below_step (by repeat (first | (with_reducible first | exact HB.out | apply below_alloc | apply pw_below_drewN | apply below_drew1) | exact HB.out)) hb); clear HB; have HB := n0_; clear n0_; (try clear hb); (try clear hb2); (try clear hk); (try clear hi)) | (go_at_call 21; (with_reducible refine (varint_Text.calls k (⟨#[97, 98]⟩ : ByteArray) t183 _ A6.out).mono ?_); rintro e w21 ⟨rfl, hb⟩; have n0_ := Aside0.mk (below_step (by repeat (first | (with_reducible first | exact HB.out | apply below_alloc | apply pw_below_drewN | apply below_drew1) | exact HB.out)) hb); clear HB; have HB := n0_; clear n0_; (try clear hb); (try clear hb2); (try clear hk); (try clear hi)))
          go_ret
          exact ⟨by first | rfl | (simp [errW_none, errW_some] <;> rfl) | (simp [*, errW_none, errW_some] <;> rfl), by repeat (first | (with_reducible first | exact HB.out | apply below_alloc | apply pw_below_drewN | apply below_drew1) | exact HB.out)⟩
      · rw [if_neg c7] at H
        have c7b0 : (t183.toList == ([2, 97, 98] : List UInt8)) = false := beq_eq_false_iff_ne.mpr c7
        have c7b1 : (t183.toList != ([2, 97, 98] : List UInt8)) = true := bne_iff_ne.mpr c7
        obtain rfl := Option.some.inj H
        go_enter Try.func27, Try.ntmps27
        go_wp2_with (first | ((with_reducible refine gate_callee (f := 23) rfl ?_); refine goesL_ (some 8) rfl rfl Try.func23 (by kernel_rfl) rfl #[.string (⟨#[128, 0]⟩ : ByteArray)] rfl (by (try simp only [List.map_toArray, List.map_cons, List.map_nil]); first | done | rfl | (simp only [List.length_drop, List.length_take]; rfl)) ?_; (with_reducible refine (varint_Get.calls k (⟨#[128, 0]⟩ : ByteArray) t176 t177 t178 _ A1.out).mono ?_); rintro e w22 ⟨rfl, hb⟩; refine ⟨_, rfl, ?_⟩; have n0_ := Aside0.mk (below_step (by repeat (first | (with_reducible first | exact HB.out | apply below_alloc | apply pw_below_drewN | apply below_drew1) | exact HB.out)) hb); clear HB; have HB := n0_; clear n0_; (try clear hb); (try clear hb2); (try clear hk); (try clear hi)) | ((with_reducible refine gate_callee (f := 25) rfl ?_); refine goesL_ (some 13) rfl rfl Try.func25 (by kernel_rfl) rfl #[.string (⟨#[2, 97, 98, 99]⟩ : ByteArray)] rfl (by (try simp only [List.map_toArray, List.map_cons, List.map_nil]); first | done | rfl | (simp only [List.length_drop, List.length_take]; rfl)) ?_; (with_reducible refine (varint_Take.calls k (⟨#[2, 97, 98, 99]⟩ : ByteArray) t179 t180 t181 _ A2.out).mono ?_); rintro e w23 ⟨rfl, hb⟩; refine ⟨_, rfl, ?_⟩; have n0_ := Aside0.mk (below_step (by repeat (first | (with_reducible first | exact HB.out | apply below_alloc | apply pw_below_drewN | apply below_drew1) | exact HB.out)) hb); clear HB; have HB := n0_; clear n0_; (try clear hb); (try clear hb2); (try clear hk); (try clear hi)) | ((with_reducible refine gate_callee (f := 19) rfl ?_); refine goesL_ (some 17) rfl rfl Try.func19 (by kernel_rfl) rfl #[.int .u64 300] rfl (by (try simp only [List.map_toArray, List.map_cons, List.map_nil]); first | done | rfl | (simp only [List.length_drop, List.length_take]; rfl)) ?_; (with_reducible refine (varint_Put.calls k 300 t182 _ A3.out).mono ?_); rintro e w24 ⟨rfl, hb⟩; refine ⟨_, rfl, ?_⟩; have n0_ := Aside0.mk (below_step (by repeat (first | (with_reducible first | exact HB.out | apply below_alloc | apply pw_below_drewN | apply below_drew1) | exact HB.out)) hb); clear HB; have HB := n0_; clear n0_; (try clear hb); (try clear hb2); (try clear hk); (try clear hi)) | (go_at_call 21; (with_reducible refine (varint_Text.calls k (⟨#[97, 98]⟩ : ByteArray) t183 _ A6.out).mono ?_); rintro e w25 ⟨rfl, hb⟩; have n0_ := Aside0.mk (below_step (by repeat (first | (with_reducible first | exact HB.out | apply below_alloc | apply pw_below_drewN | apply below_drew1) | exact HB.out)) hb); clear HB; have HB := n0_; clear n0_; (try clear hb); (try clear hb2); (try clear hk); (try clear hi)))
        go_ret
        exact ⟨by first | rfl | (simp [errW_none, errW_some] <;> rfl) | (simp [*, errW_none, errW_some] <;> rfl), by repeat (first | (with_reducible first | exact HB.out | apply below_alloc | apply pw_below_drewN | apply below_drew1) | exact HB.out)⟩
    · rw [if_neg c5] at H
      have c5b0 : (t178 == 2) = false := beq_eq_false_iff_ne.mpr c5
      have c5b1 : (t178 != 2) = true := bne_iff_ne.mpr c5
      obtain rfl := Option.some.inj H
      go_enter Try.func27, Try.ntmps27
      go_wp2_with (first | ((with_reducible refine gate_callee (f := 23) rfl ?_); refine goesL_ (some 8) rfl rfl Try.func23 (by kernel_rfl) rfl #[.string (⟨#[128, 0]⟩ : ByteArray)] rfl (by (try simp only [List.map_toArray, List.map_cons, List.map_nil]); first | done | rfl | (simp only [List.length_drop, List.length_take]; rfl)) ?_; (with_reducible refine (varint_Get.calls k (⟨#[128, 0]⟩ : ByteArray) t176 t177 t178 _ A1.out).mono ?_); rintro e w26 ⟨rfl, hb⟩; refine ⟨_, rfl, ?_⟩; have n0_ := Aside0.mk (below_step (by repeat (first | (with_reducible first | exact HB.out | apply below_alloc | apply pw_below_drewN | apply below_drew1) | exact HB.out)) hb); clear HB; have HB := n0_; clear n0_; (try clear hb); (try clear hb2); (try clear hk); (try clear hi)) | ((with_reducible refine gate_callee (f := 25) rfl ?_); refine goesL_ (some 13) rfl rfl Try.func25 (by kernel_rfl) rfl #[.string (⟨#[2, 97, 98, 99]⟩ : ByteArray)] rfl (by (try simp only [List.map_toArray, List.map_cons, List.map_nil]); first | done | rfl | (simp only [List.length_drop, List.length_take]; rfl)) ?_; (with_reducible refine (varint_Take.calls k (⟨#[2, 97, 98, 99]⟩ : ByteArray) t179 t180 t181 _ A2.out).mono ?_); rintro e w27 ⟨rfl, hb⟩; refine ⟨_, rfl, ?_⟩; have n0_ := Aside0.mk (below_step (by repeat (first | (with_reducible first | exact HB.out | apply below_alloc | apply pw_below_drewN | apply below_drew1) | exact HB.out)) hb); clear HB; have HB := n0_; clear n0_; (try clear hb); (try clear hb2); (try clear hk); (try clear hi)) | ((with_reducible refine gate_callee (f := 19) rfl ?_); refine goesL_ (some 17) rfl rfl Try.func19 (by kernel_rfl) rfl #[.int .u64 300] rfl (by (try simp only [List.map_toArray, List.map_cons, List.map_nil]); first | done | rfl | (simp only [List.length_drop, List.length_take]; rfl)) ?_; (with_reducible refine (varint_Put.calls k 300 t182 _ A3.out).mono ?_); rintro e w28 ⟨rfl, hb⟩; refine ⟨_, rfl, ?_⟩; have n0_ := Aside0.mk (below_step (by repeat (first | (with_reducible first | exact HB.out | apply below_alloc | apply pw_below_drewN | apply below_drew1) | exact HB.out)) hb); clear HB; have HB := n0_; clear n0_; (try clear hb); (try clear hb2); (try clear hk); (try clear hi)))
      go_ret
      exact ⟨by first | rfl | (simp [errW_none, errW_some] <;> rfl) | (simp [*, errW_none, errW_some] <;> rfl), by repeat (first | (with_reducible first | exact HB.out | apply below_alloc | apply pw_below_drewN | apply below_drew1) | exact HB.out)⟩
  · rw [if_neg c4] at H
    have c4b0 : (t182.toList == ([172, 2] : List UInt8)) = false := beq_eq_false_iff_ne.mpr c4
    have c4b1 : (t182.toList != ([172, 2] : List UInt8)) = true := bne_iff_ne.mpr c4
    obtain rfl := Option.some.inj H
    go_enter Try.func27, Try.ntmps27
    go_wp2_with (first | ((with_reducible refine gate_callee (f := 23) rfl ?_); refine goesL_ (some 8) rfl rfl Try.func23 (by kernel_rfl) rfl #[.string (⟨#[128, 0]⟩ : ByteArray)] rfl (by (try simp only [List.map_toArray, List.map_cons, List.map_nil]); first | done | rfl | (simp only [List.length_drop, List.length_take]; rfl)) ?_; (with_reducible refine (varint_Get.calls k (⟨#[128, 0]⟩ : ByteArray) t176 t177 t178 _ A1.out).mono ?_); rintro e w29 ⟨rfl, hb⟩; refine ⟨_, rfl, ?_⟩; have n0_ := Aside0.mk (below_step (by repeat (first | (with_reducible first | exact HB.out | apply below_alloc | apply pw_below_drewN | apply below_drew1) | exact HB.out)) hb); clear HB; have HB := n0_; clear n0_; (try clear hb); (try clear hb2); (try clear hk); (try clear hi)) | ((with_reducible refine gate_callee (f := 25) rfl ?_); refine goesL_ (some 13) rfl rfl Try.func25 (by kernel_rfl) rfl #[.string (⟨#[2, 97, 98, 99]⟩ : ByteArray)] rfl (by (try simp only [List.map_toArray, List.map_cons, List.map_nil]); first | done | rfl | (simp only [List.length_drop, List.length_take]; rfl)) ?_; (with_reducible refine (varint_Take.calls k (⟨#[2, 97, 98, 99]⟩ : ByteArray) t179 t180 t181 _ A2.out).mono ?_); rintro e w30 ⟨rfl, hb⟩; refine ⟨_, rfl, ?_⟩; have n0_ := Aside0.mk (below_step (by repeat (first | (with_reducible first | exact HB.out | apply below_alloc | apply pw_below_drewN | apply below_drew1) | exact HB.out)) hb); clear HB; have HB := n0_; clear n0_; (try clear hb); (try clear hb2); (try clear hk); (try clear hi)) | ((with_reducible refine gate_callee (f := 19) rfl ?_); refine goesL_ (some 17) rfl rfl Try.func19 (by kernel_rfl) rfl #[.int .u64 300] rfl (by (try simp only [List.map_toArray, List.map_cons, List.map_nil]); first | done | rfl | (simp only [List.length_drop, List.length_take]; rfl)) ?_; (with_reducible refine (varint_Put.calls k 300 t182 _ A3.out).mono ?_); rintro e w31 ⟨rfl, hb⟩; refine ⟨_, rfl, ?_⟩; have n0_ := Aside0.mk (below_step (by repeat (first | (with_reducible first | exact HB.out | apply below_alloc | apply pw_below_drewN | apply below_drew1) | exact HB.out)) hb); clear HB; have HB := n0_; clear n0_; (try clear hb); (try clear hb2); (try clear hk); (try clear hi)))
    go_ret
    exact ⟨by first | rfl | (simp [errW_none, errW_some] <;> rfl) | (simp [*, errW_none, errW_some] <;> rfl), by repeat (first | (with_reducible first | exact HB.out | apply below_alloc | apply pw_below_drewN | apply below_drew1) | exact HB.out)⟩

/-! ### knapsacklaw01_VarintTells: function 5 -/
mutual
def knapsacklaw01_VarintTells.j0 : Nat → ByteArray → Bool → Option (Bool)
  | 0, _, _ => none
  | k + 1, x1, x28 => if x28 = true then (some false) else ((varint_Get.f k x1).bind fun bt188 => ((knapsackref01_Get.f k x1).bind fun bt191 => ((varint_Take.f k x1).bind fun bt193 => ((knapsackref01_Take.f k x1).bind fun bt196 => (if bt191.2 = 0 then (if bt188.2.2 = 2 then (if bt188.1 = 0 then (if bt188.2.1.toList = ([] : List UInt8) then (knapsacklaw01_VarintTells.j1 k x1 bt193.1 bt193.2.1 bt193.2.2 bt196.1 bt196.2) else (some false)) else (some false)) else (some false)) else (if bt188.2.2 = 0 then (if bt188.1 = bt191.1 then (if 0 ≤ bt191.2 then (if bt191.2 ≤ (x1.size : Int) then (if bt188.2.1.toList = (x1.extract (bt191.2 : Int).toNat x1.size).toList then (knapsacklaw01_VarintTells.j1 k x1 bt193.1 bt193.2.1 bt193.2.2 bt196.1 bt196.2) else (some false)) else (none)) else (none)) else (some false)) else (some false)))))))
def knapsacklaw01_VarintTells.j1 : Nat → ByteArray → ByteArray → ByteArray → Int → ByteArray → Int → Option (Bool)
  | 0, _, _, _, _, _, _ => none
  | k + 1, x1, x12, x13, x14, x15, x16 => if x16 = 0 then ((knapsacklaw01_knows.f k).bind fun t198 => (if t198 = true then (if x14 = 2 then (if x12.toList = ([] : List UInt8) then (some (x13.toList == ([] : List UInt8))) else (some false)) else (some false)) else (some false))) else ((knapsacklaw01_knows.f k).bind fun t199 => (if t199 = true then (if x14 = 0 then (if x12.toList = x15.toList then (if 0 ≤ x16 then (if x16 ≤ (x1.size : Int) then (some (x13.toList == (x1.extract (x16 : Int).toNat x1.size).toList)) else (none)) else (none)) else (some false)) else (some false)) else (some false)))
end
def knapsacklaw01_VarintTells.f (k : Nat) (a0 : Int) (a1 : ByteArray) (a2 : ByteArray) : Option (Bool) := (varint_Put.f k a0).bind fun t184 => ((knapsackref01_Put.f k a0).bind fun t185 => (if t184.toList = t185.toList then ((varint_Text.f k a2).bind fun t186 => ((knapsackref01_Text.f k a2).bind fun t187 => (knapsacklaw01_VarintTells.j0 k a1 (t186.toList != t187.toList)))) else (knapsacklaw01_VarintTells.j0 k a1 true)))
theorem knapsacklaw01_VarintTells.mono_l : ∀ k, (∀ y0 y1, LeO (knapsacklaw01_VarintTells.j0 k y0 y1) (knapsacklaw01_VarintTells.j0 (k + 1) y0 y1)) ∧ (∀ y0 y1 y2 y3 y4 y5, LeO (knapsacklaw01_VarintTells.j1 k y0 y1 y2 y3 y4 y5) (knapsacklaw01_VarintTells.j1 (k + 1) y0 y1 y2 y3 y4 y5))
  | 0 => ⟨fun _ _ r h => by simp [knapsacklaw01_VarintTells.j0] at h, fun _ _ _ _ _ _ r h => by simp [knapsacklaw01_VarintTells.j1] at h⟩
  | k + 1 => by
    obtain ⟨ih0, ih1⟩ := knapsacklaw01_VarintTells.mono_l k
    refine ⟨?_, ?_⟩
    · intro y0 y1
      unfold knapsacklaw01_VarintTells.j0
      repeat' first
      | (with_reducible exact ih0 _ _)
      | (with_reducible exact ih1 _ _ _ _ _ _)
      | (with_reducible exact knapsacklaw01_knows.mono _)
      | (with_reducible exact knapsackref01_Get.mono _ _)
      | (with_reducible exact knapsackref01_Put.mono _ _)
      | (with_reducible exact knapsackref01_Take.mono _ _)
      | (with_reducible exact knapsackref01_Text.mono _ _)
      | (with_reducible exact varint_Get.mono _ _)
      | (with_reducible exact varint_Put.mono _ _)
      | (with_reducible exact varint_Take.mono _ _)
      | (with_reducible exact varint_Text.mono _ _)
      | (with_reducible exact LeO.refl _)
      | (with_reducible exact LeO.none _)
      | (with_reducible refine LeO.ite ?_ ?_)
      | (with_reducible refine LeO.bind ?_ (fun _ => ?_))
      | exact ih0 _ _
      | exact ih1 _ _ _ _ _ _
      | exact knapsacklaw01_knows.mono _
      | exact knapsackref01_Get.mono _ _
      | exact knapsackref01_Put.mono _ _
      | exact knapsackref01_Take.mono _ _
      | exact knapsackref01_Text.mono _ _
      | exact varint_Get.mono _ _
      | exact varint_Put.mono _ _
      | exact varint_Take.mono _ _
      | exact varint_Text.mono _ _
      | exact LeO.none _
      | refine LeO.ite ?_ ?_
      | refine LeO.bind ?_ (fun _ => ?_)
    · intro y0 y1 y2 y3 y4 y5
      unfold knapsacklaw01_VarintTells.j1
      repeat' first
      | (with_reducible exact ih0 _ _)
      | (with_reducible exact ih1 _ _ _ _ _ _)
      | (with_reducible exact knapsacklaw01_knows.mono _)
      | (with_reducible exact knapsackref01_Get.mono _ _)
      | (with_reducible exact knapsackref01_Put.mono _ _)
      | (with_reducible exact knapsackref01_Take.mono _ _)
      | (with_reducible exact knapsackref01_Text.mono _ _)
      | (with_reducible exact varint_Get.mono _ _)
      | (with_reducible exact varint_Put.mono _ _)
      | (with_reducible exact varint_Take.mono _ _)
      | (with_reducible exact varint_Text.mono _ _)
      | (with_reducible exact LeO.refl _)
      | (with_reducible exact LeO.none _)
      | (with_reducible refine LeO.ite ?_ ?_)
      | (with_reducible refine LeO.bind ?_ (fun _ => ?_))
      | exact ih0 _ _
      | exact ih1 _ _ _ _ _ _
      | exact knapsacklaw01_knows.mono _
      | exact knapsackref01_Get.mono _ _
      | exact knapsackref01_Put.mono _ _
      | exact knapsackref01_Take.mono _ _
      | exact knapsackref01_Text.mono _ _
      | exact varint_Get.mono _ _
      | exact varint_Put.mono _ _
      | exact varint_Take.mono _ _
      | exact varint_Text.mono _ _
      | exact LeO.none _
      | refine LeO.ite ?_ ?_
      | refine LeO.bind ?_ (fun _ => ?_)
theorem knapsacklaw01_VarintTells.mono : ∀ a0 a1 a2 k, LeO (knapsacklaw01_VarintTells.f k a0 a1 a2) (knapsacklaw01_VarintTells.f (k + 1) a0 a1 a2) := by
  intro a0 a1 a2 k
  obtain ⟨ih0, ih1⟩ := knapsacklaw01_VarintTells.mono_l k
  unfold knapsacklaw01_VarintTells.f
  repeat' first
      | (with_reducible exact ih0 _ _)
      | (with_reducible exact ih1 _ _ _ _ _ _)
      | (with_reducible exact knapsacklaw01_knows.mono _)
      | (with_reducible exact knapsackref01_Get.mono _ _)
      | (with_reducible exact knapsackref01_Put.mono _ _)
      | (with_reducible exact knapsackref01_Take.mono _ _)
      | (with_reducible exact knapsackref01_Text.mono _ _)
      | (with_reducible exact varint_Get.mono _ _)
      | (with_reducible exact varint_Put.mono _ _)
      | (with_reducible exact varint_Take.mono _ _)
      | (with_reducible exact varint_Text.mono _ _)
      | (with_reducible exact LeO.refl _)
      | (with_reducible exact LeO.none _)
      | (with_reducible refine LeO.ite ?_ ?_)
      | (with_reducible refine LeO.bind ?_ (fun _ => ?_))
      | exact ih0 _ _
      | exact ih1 _ _ _ _ _ _
      | exact knapsacklaw01_knows.mono _
      | exact knapsackref01_Get.mono _ _
      | exact knapsackref01_Put.mono _ _
      | exact knapsackref01_Take.mono _ _
      | exact knapsackref01_Text.mono _ _
      | exact varint_Get.mono _ _
      | exact varint_Put.mono _ _
      | exact varint_Take.mono _ _
      | exact varint_Text.mono _ _
      | exact LeO.none _
      | refine LeO.ite ?_ ?_
      | refine LeO.bind ?_ (fun _ => ?_)
set_option maxHeartbeats 8000000 in
set_option maxRecDepth 100000 in
theorem knapsacklaw01_VarintTells.calls (k : Nat) (a0 : Int) (a1 : ByteArray) (a2 : ByteArray) (r : Bool) (w : World) (h : knapsacklaw01_VarintTells.f k a0 a1 a2 = some r) :
    Calls Try.prog 5 #[.int .u64 a0, .string a1, .string a2] w fun e w' => e = .returned (.bool r) ∧ Below w.heap.size w w' := by
  have HB := Aside0.mk (Below.refl w.heap.size w)
  have H : ((varint_Put.f k a0).bind fun t184 => ((knapsackref01_Put.f k a0).bind fun t185 => (if t184.toList = t185.toList then ((varint_Text.f k a2).bind fun t186 => ((knapsackref01_Text.f k a2).bind fun t187 => (knapsacklaw01_VarintTells.j0 k a1 (t186.toList != t187.toList)))) else (knapsacklaw01_VarintTells.j0 k a1 true)))) = some r := h
  clear h
  have HC4 := Aside0.mk H
  clear H
  go_enter Try.func5, Try.ntmps5
  go_upto_region 1 with (fail)
  go_cut [28] (fun v28 wc => ∃ (kq : Nat) (x28_3 : Bool), v28 = .bool x28_3 ∧ Aside0 (knapsacklaw01_VarintTells.j0 kq a1 x28_3 = some r) ∧ Aside0 (kq ≤ k) ∧ Aside0 (Below w.heap.size w wc))
  case first =>
    have H := HC4.out
    clear HC4
    replace H := Option.bind_eq_some_iff.mp H
    obtain ⟨t184, A50, H⟩ := H
    replace H : ((knapsackref01_Put.f k a0).bind fun t185 => (if t184.toList = t185.toList then ((varint_Text.f k a2).bind fun t186 => ((knapsackref01_Text.f k a2).bind fun t187 => (knapsacklaw01_VarintTells.j0 k a1 (t186.toList != t187.toList)))) else (knapsacklaw01_VarintTells.j0 k a1 true))) = some r := H
    have A5 := Aside0.mk A50
    clear A50
    replace H := Option.bind_eq_some_iff.mp H
    obtain ⟨t185, A60, H⟩ := H
    replace H : (if t184.toList = t185.toList then ((varint_Text.f k a2).bind fun t186 => ((knapsackref01_Text.f k a2).bind fun t187 => (knapsacklaw01_VarintTells.j0 k a1 (t186.toList != t187.toList)))) else (knapsacklaw01_VarintTells.j0 k a1 true)) = some r := H
    have A6 := Aside0.mk A60
    clear A60
    by_cases c7 : t184.toList = t185.toList
    · rw [if_pos c7] at H
      have c7b0 : (t184.toList == t185.toList) = true := beq_iff_eq.mpr c7
      have c7b1 : (t184.toList != t185.toList) = false := bne_eq_false_iff_eq.mpr c7
      clear c7
      (first | rw [c7b0] | (simp only [i64_w, i32_w]; rw [c7b0]) | skip)
      replace H := Option.bind_eq_some_iff.mp H
      obtain ⟨t186, A80, H⟩ := H
      replace H : ((knapsackref01_Text.f k a2).bind fun t187 => (knapsacklaw01_VarintTells.j0 k a1 (t186.toList != t187.toList))) = some r := H
      have A8 := Aside0.mk A80
      clear A80
      replace H := Option.bind_eq_some_iff.mp H
      obtain ⟨t187, A90, H⟩ := H
      replace H : (knapsacklaw01_VarintTells.j0 k a1 (t186.toList != t187.toList)) = some r := H
      have A9 := Aside0.mk A90
      clear A90
      have H' := Aside0.mk H
      clear H
      go_wp2_with (first | ((with_reducible refine gate_callee (f := 19) rfl ?_); refine goesL_ (some 18) rfl rfl Try.func19 (by kernel_rfl) rfl #[.int .u64 a0] rfl (by (try simp only [List.map_toArray, List.map_cons, List.map_nil]); first | done | rfl | (simp only [List.length_drop, List.length_take]; rfl)) ?_; (with_reducible refine (varint_Put.calls k a0 t184 _ A5.out).mono ?_); rintro e w10 ⟨rfl, hb⟩; refine ⟨_, rfl, ?_⟩; have n0_ := Aside0.mk (below_step (by repeat (first | (with_reducible first | exact HB.out | apply below_alloc | apply pw_below_drewN | apply below_drew1) | exact HB.out)) hb); clear HB; have HB := n0_; clear n0_; (try clear hb); (try clear hb2); (try clear hk); (try clear hi)) | ((with_reducible refine gate_callee (f := 20) rfl ?_); refine goesL_ (some 20) rfl rfl Try.func20 (by kernel_rfl) rfl #[.int .u64 a0] rfl (by (try simp only [List.map_toArray, List.map_cons, List.map_nil]); first | done | rfl | (simp only [List.length_drop, List.length_take]; rfl)) ?_; (with_reducible refine (knapsackref01_Put.calls k a0 t185 _ A6.out).mono ?_); rintro e w11 ⟨rfl, hb⟩; refine ⟨_, rfl, ?_⟩; have n0_ := Aside0.mk (below_step (by repeat (first | (with_reducible first | exact HB.out | apply below_alloc | apply pw_below_drewN | apply below_drew1) | exact HB.out)) hb); clear HB; have HB := n0_; clear n0_; (try clear hb); (try clear hb2); (try clear hk); (try clear hi)) | (go_at_call 21; (with_reducible refine (varint_Text.calls k a2 t186 _ A8.out).mono ?_); rintro e w12 ⟨rfl, hb⟩; have n0_ := Aside0.mk (below_step (by repeat (first | (with_reducible first | exact HB.out | apply below_alloc | apply pw_below_drewN | apply below_drew1) | exact HB.out)) hb); clear HB; have HB := n0_; clear n0_; (try clear hb); (try clear hb2); (try clear hk); (try clear hi)) | (go_at_call 22; (with_reducible refine (knapsackref01_Text.calls k a2 t187 _ A9.out).mono ?_); rintro e w13 ⟨rfl, hb⟩; have n0_ := Aside0.mk (below_step (by repeat (first | (with_reducible first | exact HB.out | apply below_alloc | apply pw_below_drewN | apply below_drew1) | exact HB.out)) hb); clear HB; have HB := n0_; clear n0_; (try clear hb); (try clear hb2); (try clear hk); (try clear hi)))
      go_meet
      case rel => exact ⟨_, ((t186.toList != t187.toList)), (by first | rfl | (simp; done) | (simp; omega) | (simp [*]; done)), H', ⟨by first | omega | exact Nat.le_refl _⟩, ⟨by repeat (first | (with_reducible first | exact HB.out | apply below_alloc | apply pw_below_drewN | apply below_drew1) | exact HB.out)⟩⟩
    · rw [if_neg c7] at H
      have c7b0 : (t184.toList == t185.toList) = false := beq_eq_false_iff_ne.mpr c7
      have c7b1 : (t184.toList != t185.toList) = true := bne_iff_ne.mpr c7
      (first | rw [c7b0] | (simp only [i64_w, i32_w]; rw [c7b0]) | skip)
      have H' := Aside0.mk H
      clear H
      go_wp2_with (first | ((with_reducible refine gate_callee (f := 19) rfl ?_); refine goesL_ (some 18) rfl rfl Try.func19 (by kernel_rfl) rfl #[.int .u64 a0] rfl (by (try simp only [List.map_toArray, List.map_cons, List.map_nil]); first | done | rfl | (simp only [List.length_drop, List.length_take]; rfl)) ?_; (with_reducible refine (varint_Put.calls k a0 t184 _ A5.out).mono ?_); rintro e w14 ⟨rfl, hb⟩; refine ⟨_, rfl, ?_⟩; have n0_ := Aside0.mk (below_step (by repeat (first | (with_reducible first | exact HB.out | apply below_alloc | apply pw_below_drewN | apply below_drew1) | exact HB.out)) hb); clear HB; have HB := n0_; clear n0_; (try clear hb); (try clear hb2); (try clear hk); (try clear hi)) | ((with_reducible refine gate_callee (f := 20) rfl ?_); refine goesL_ (some 20) rfl rfl Try.func20 (by kernel_rfl) rfl #[.int .u64 a0] rfl (by (try simp only [List.map_toArray, List.map_cons, List.map_nil]); first | done | rfl | (simp only [List.length_drop, List.length_take]; rfl)) ?_; (with_reducible refine (knapsackref01_Put.calls k a0 t185 _ A6.out).mono ?_); rintro e w15 ⟨rfl, hb⟩; refine ⟨_, rfl, ?_⟩; have n0_ := Aside0.mk (below_step (by repeat (first | (with_reducible first | exact HB.out | apply below_alloc | apply pw_below_drewN | apply below_drew1) | exact HB.out)) hb); clear HB; have HB := n0_; clear n0_; (try clear hb); (try clear hb2); (try clear hk); (try clear hi)))
      go_meet
      case rel => exact ⟨_, (true), (by first | rfl | (simp; done) | (simp; omega) | (simp [*]; done)), H', ⟨by first | omega | exact Nat.le_refl _⟩, ⟨by repeat (first | (with_reducible first | exact HB.out | apply below_alloc | apply pw_below_drewN | apply below_drew1) | exact HB.out)⟩⟩
  case rest =>
    clear HC4
    try clear c1
    try clear c2
    try clear p2
    try clear c5
    try clear c7
    try clear c7b0
    try clear c7b1
    obtain ⟨kq, x28_3, rfl, HA, HJ3, HB⟩ := hcut
    cases kq with
    | zero => exact absurd HA.out (by simp [knapsacklaw01_VarintTells.j0])
    | succ kj3 =>
      have H := HA.out
      clear HA
      simp only [knapsacklaw01_VarintTells.j0] at H
      by_cases c16 : x28_3 = true
      · subst c16
        have H1 : (some false) = some r := by rw [if_pos rfl] at H; exact H
        clear H
        have H := H1
        clear H1
        obtain rfl := Option.some.inj H
        go_wp2
        go_ret
        exact ⟨by first | rfl | (simp [errW_none, errW_some] <;> rfl) | (simp [*, errW_none, errW_some] <;> rfl), by repeat (first | (with_reducible first | exact HB.out | apply below_alloc | apply pw_below_drewN | apply below_drew1) | exact HB.out)⟩
      · replace c16 := Bool.eq_false_iff.mpr c16
        subst c16
        have H1 : ((varint_Get.f kj3 a1).bind fun bt188 => ((knapsackref01_Get.f kj3 a1).bind fun bt191 => ((varint_Take.f kj3 a1).bind fun bt193 => ((knapsackref01_Take.f kj3 a1).bind fun bt196 => (if bt191.2 = 0 then (if bt188.2.2 = 2 then (if bt188.1 = 0 then (if bt188.2.1.toList = ([] : List UInt8) then (knapsacklaw01_VarintTells.j1 kj3 a1 bt193.1 bt193.2.1 bt193.2.2 bt196.1 bt196.2) else (some false)) else (some false)) else (some false)) else (if bt188.2.2 = 0 then (if bt188.1 = bt191.1 then (if 0 ≤ bt191.2 then (if bt191.2 ≤ (a1.size : Int) then (if bt188.2.1.toList = (a1.extract (bt191.2 : Int).toNat a1.size).toList then (knapsacklaw01_VarintTells.j1 kj3 a1 bt193.1 bt193.2.1 bt193.2.2 bt196.1 bt196.2) else (some false)) else (none)) else (none)) else (some false)) else (some false))))))) = some r := by rw [if_neg (show ¬ (false = true) by decide)] at H; exact H
        clear H
        have H := H1
        clear H1
        replace H := Option.bind_eq_some_iff.mp H
        obtain ⟨⟨t188, t189, t190⟩, A170, H⟩ := H
        replace H : ((knapsackref01_Get.f kj3 a1).bind fun bt191 => ((varint_Take.f kj3 a1).bind fun bt193 => ((knapsackref01_Take.f kj3 a1).bind fun bt196 => (if bt191.2 = 0 then (if t190 = 2 then (if t188 = 0 then (if t189.toList = ([] : List UInt8) then (knapsacklaw01_VarintTells.j1 kj3 a1 bt193.1 bt193.2.1 bt193.2.2 bt196.1 bt196.2) else (some false)) else (some false)) else (some false)) else (if t190 = 0 then (if t188 = bt191.1 then (if 0 ≤ bt191.2 then (if bt191.2 ≤ (a1.size : Int) then (if t189.toList = (a1.extract (bt191.2 : Int).toNat a1.size).toList then (knapsacklaw01_VarintTells.j1 kj3 a1 bt193.1 bt193.2.1 bt193.2.2 bt196.1 bt196.2) else (some false)) else (none)) else (none)) else (some false)) else (some false)))))) = some r := H
        have A17 := Aside0.mk A170
        clear A170
        replace H := Option.bind_eq_some_iff.mp H
        obtain ⟨⟨t191, t192⟩, A180, H⟩ := H
        replace H : ((varint_Take.f kj3 a1).bind fun bt193 => ((knapsackref01_Take.f kj3 a1).bind fun bt196 => (if t192 = 0 then (if t190 = 2 then (if t188 = 0 then (if t189.toList = ([] : List UInt8) then (knapsacklaw01_VarintTells.j1 kj3 a1 bt193.1 bt193.2.1 bt193.2.2 bt196.1 bt196.2) else (some false)) else (some false)) else (some false)) else (if t190 = 0 then (if t188 = t191 then (if 0 ≤ t192 then (if t192 ≤ (a1.size : Int) then (if t189.toList = (a1.extract (t192 : Int).toNat a1.size).toList then (knapsacklaw01_VarintTells.j1 kj3 a1 bt193.1 bt193.2.1 bt193.2.2 bt196.1 bt196.2) else (some false)) else (none)) else (none)) else (some false)) else (some false))))) = some r := H
        have A18 := Aside0.mk A180
        clear A180
        replace H := Option.bind_eq_some_iff.mp H
        obtain ⟨⟨t193, t194, t195⟩, A190, H⟩ := H
        replace H : ((knapsackref01_Take.f kj3 a1).bind fun bt196 => (if t192 = 0 then (if t190 = 2 then (if t188 = 0 then (if t189.toList = ([] : List UInt8) then (knapsacklaw01_VarintTells.j1 kj3 a1 t193 t194 t195 bt196.1 bt196.2) else (some false)) else (some false)) else (some false)) else (if t190 = 0 then (if t188 = t191 then (if 0 ≤ t192 then (if t192 ≤ (a1.size : Int) then (if t189.toList = (a1.extract (t192 : Int).toNat a1.size).toList then (knapsacklaw01_VarintTells.j1 kj3 a1 t193 t194 t195 bt196.1 bt196.2) else (some false)) else (none)) else (none)) else (some false)) else (some false)))) = some r := H
        have A19 := Aside0.mk A190
        clear A190
        replace H := Option.bind_eq_some_iff.mp H
        obtain ⟨⟨t196, t197⟩, A200, H⟩ := H
        replace H : (if t192 = 0 then (if t190 = 2 then (if t188 = 0 then (if t189.toList = ([] : List UInt8) then (knapsacklaw01_VarintTells.j1 kj3 a1 t193 t194 t195 t196 t197) else (some false)) else (some false)) else (some false)) else (if t190 = 0 then (if t188 = t191 then (if 0 ≤ t192 then (if t192 ≤ (a1.size : Int) then (if t189.toList = (a1.extract (t192 : Int).toNat a1.size).toList then (knapsacklaw01_VarintTells.j1 kj3 a1 t193 t194 t195 t196 t197) else (some false)) else (none)) else (none)) else (some false)) else (some false))) = some r := H
        have A20 := Aside0.mk A200
        clear A200
        have HC21 := Aside0.mk H
        clear H
        go_upto_if 52 with (first | ((with_reducible refine gate_callee (f := 23) rfl ?_); refine goesL_ (some 31) rfl rfl Try.func23 (by kernel_rfl) rfl #[.string a1] rfl (by (try simp only [List.map_toArray, List.map_cons, List.map_nil]); first | done | rfl | (simp only [List.length_drop, List.length_take]; rfl)) ?_; (with_reducible refine (varint_Get.calls kj3 a1 t188 t189 t190 _ A17.out).mono ?_); rintro e w22 ⟨rfl, hb⟩; refine ⟨_, rfl, ?_⟩; have n0_ := Aside0.mk (below_step (by repeat (first | (with_reducible first | exact HB.out | apply below_alloc | apply pw_below_drewN | apply below_drew1) | exact HB.out)) hb); clear HB; have HB := n0_; clear n0_; (try clear hb); (try clear hb2); (try clear hk); (try clear hi)) | ((with_reducible refine gate_callee (f := 24) rfl ?_); refine goesL_ (some 37) rfl rfl Try.func24 (by kernel_rfl) rfl #[.string a1] rfl (by (try simp only [List.map_toArray, List.map_cons, List.map_nil]); first | done | rfl | (simp only [List.length_drop, List.length_take]; rfl)) ?_; (with_reducible refine (knapsackref01_Get.calls kj3 a1 t191 t192 _ A18.out).mono ?_); rintro e w' ⟨rfl, ⟨nd, rfl⟩⟩; refine ⟨_, rfl, ?_⟩) | ((with_reducible refine gate_callee (f := 25) rfl ?_); refine goesL_ (some 42) rfl rfl Try.func25 (by kernel_rfl) rfl #[.string a1] rfl (by (try simp only [List.map_toArray, List.map_cons, List.map_nil]); first | done | rfl | (simp only [List.length_drop, List.length_take]; rfl)) ?_; (with_reducible refine (varint_Take.calls kj3 a1 t193 t194 t195 _ A19.out).mono ?_); rintro e w23 ⟨rfl, hb⟩; refine ⟨_, rfl, ?_⟩; have n0_ := Aside0.mk (below_step (by repeat (first | (with_reducible first | exact HB.out | apply below_alloc | apply pw_below_drewN | apply below_drew1) | exact HB.out)) hb); clear HB; have HB := n0_; clear n0_; (try clear hb); (try clear hb2); (try clear hk); (try clear hi)) | ((with_reducible refine gate_callee (f := 26) rfl ?_); refine goesL_ (some 48) rfl rfl Try.func26 (by kernel_rfl) rfl #[.string a1] rfl (by (try simp only [List.map_toArray, List.map_cons, List.map_nil]); first | done | rfl | (simp only [List.length_drop, List.length_take]; rfl)) ?_; (with_reducible refine (knapsackref01_Take.calls kj3 a1 t196 t197 _ A20.out).mono ?_); rintro e w' ⟨rfl, ⟨nd, rfl⟩⟩; refine ⟨_, rfl, ?_⟩))
        (try simp only [Act.put, List.setIfInBounds_toArray, List.set_cons_zero, List.set_cons_succ])
        go_cut [] (fun wc => ∃ (kq : Nat), Aside0 (knapsacklaw01_VarintTells.j1 kq a1 t193 t194 t195 t196 t197 = some r) ∧ Aside0 (kq ≤ kj3) ∧ Aside0 (Below w.heap.size w wc))
        case first =>
          have H := HC21.out
          clear HC21
          by_cases c24 : t192 = 0
          · rw [if_pos c24] at H
            have c24b0 : (t192 == 0) = true := beq_iff_eq.mpr c24
            have c24b1 : (t192 != 0) = false := bne_eq_false_iff_eq.mpr c24
            clear c24
            (first | rw [c24b0] | (simp only [i64_w, i32_w]; rw [c24b0]) | skip)
            by_cases c25 : t190 = 2
            · rw [if_pos c25] at H
              have c25b0 : (t190 == 2) = true := beq_iff_eq.mpr c25
              have c25b1 : (t190 != 2) = false := bne_eq_false_iff_eq.mpr c25
              clear c25
              by_cases c26 : t188 = 0
              · rw [if_pos c26] at H
                have c26b0 : (t188 == 0) = true := beq_iff_eq.mpr c26
                have c26b1 : (t188 != 0) = false := bne_eq_false_iff_eq.mpr c26
                clear c26
                by_cases c27 : t189.toList = ([] : List UInt8)
                · rw [if_pos c27] at H
                  have c27b0 : (t189.toList == ([] : List UInt8)) = true := beq_iff_eq.mpr c27
                  have c27b1 : (t189.toList != ([] : List UInt8)) = false := bne_eq_false_iff_eq.mpr c27
                  clear c27
                  have H' := Aside0.mk H
                  clear H
                  go_wp2
                  go_meet
                  case rel => exact ⟨_, H', ⟨by have := HJ3.out; first | omega | exact Nat.le_refl _⟩, ⟨by repeat (first | (with_reducible first | exact HB.out | apply below_alloc | apply pw_below_drewN | apply below_drew1) | exact HB.out)⟩⟩
                · rw [if_neg c27] at H
                  have c27b0 : (t189.toList == ([] : List UInt8)) = false := beq_eq_false_iff_ne.mpr c27
                  have c27b1 : (t189.toList != ([] : List UInt8)) = true := bne_iff_ne.mpr c27
                  obtain rfl := Option.some.inj H
                  go_wp2
                  go_ret
                  exact ⟨by first | rfl | (simp [errW_none, errW_some] <;> rfl) | (simp [*, errW_none, errW_some] <;> rfl), by repeat (first | (with_reducible first | exact HB.out | apply below_alloc | apply pw_below_drewN | apply below_drew1) | exact HB.out)⟩
              · rw [if_neg c26] at H
                have c26b0 : (t188 == 0) = false := beq_eq_false_iff_ne.mpr c26
                have c26b1 : (t188 != 0) = true := bne_iff_ne.mpr c26
                obtain rfl := Option.some.inj H
                go_wp2
                go_ret
                exact ⟨by first | rfl | (simp [errW_none, errW_some] <;> rfl) | (simp [*, errW_none, errW_some] <;> rfl), by repeat (first | (with_reducible first | exact HB.out | apply below_alloc | apply pw_below_drewN | apply below_drew1) | exact HB.out)⟩
            · rw [if_neg c25] at H
              have c25b0 : (t190 == 2) = false := beq_eq_false_iff_ne.mpr c25
              have c25b1 : (t190 != 2) = true := bne_iff_ne.mpr c25
              obtain rfl := Option.some.inj H
              go_wp2
              go_ret
              exact ⟨by first | rfl | (simp [errW_none, errW_some] <;> rfl) | (simp [*, errW_none, errW_some] <;> rfl), by repeat (first | (with_reducible first | exact HB.out | apply below_alloc | apply pw_below_drewN | apply below_drew1) | exact HB.out)⟩
          · rw [if_neg c24] at H
            have c24b0 : (t192 == 0) = false := beq_eq_false_iff_ne.mpr c24
            have c24b1 : (t192 != 0) = true := bne_iff_ne.mpr c24
            (first | rw [c24b0] | (simp only [i64_w, i32_w]; rw [c24b0]) | skip)
            by_cases c28 : t190 = 0
            · rw [if_pos c28] at H
              have c28b0 : (t190 == 0) = true := beq_iff_eq.mpr c28
              have c28b1 : (t190 != 0) = false := bne_eq_false_iff_eq.mpr c28
              clear c28
              by_cases c29 : t188 = t191
              · rw [if_pos c29] at H
                have c29b0 : (t188 == t191) = true := beq_iff_eq.mpr c29
                have c29b1 : (t188 != t191) = false := bne_eq_false_iff_eq.mpr c29
                clear c29
                by_cases c30 : 0 ≤ t192
                · rw [if_pos c30] at H
                  have c30b0 := eq_true c30
                  have c30b1 : decide (0 ≤ t192) = true := decide_eq_true c30
                  clear c30
                  by_cases c31 : t192 ≤ (a1.size : Int)
                  · rw [if_pos c31] at H
                    have c31b0 := eq_true c31
                    have c31b1 : decide (t192 ≤ (a1.size : Int)) = true := decide_eq_true c31
                    clear c31
                    by_cases c32 : t189.toList = (a1.extract (t192 : Int).toNat a1.size).toList
                    · rw [if_pos c32] at H
                      have c32b0 : (t189.toList == (a1.extract (t192 : Int).toNat a1.size).toList) = true := beq_iff_eq.mpr c32
                      have c32b1 : (t189.toList != (a1.extract (t192 : Int).toNat a1.size).toList) = false := bne_eq_false_iff_eq.mpr c32
                      clear c32
                      have H' := Aside0.mk H
                      clear H
                      go_wp2
                      go_meet
                      case rel => exact ⟨_, H', ⟨by have := HJ3.out; first | omega | exact Nat.le_refl _⟩, ⟨by repeat (first | (with_reducible first | exact HB.out | apply below_alloc | apply pw_below_drewN | apply below_drew1) | exact HB.out)⟩⟩
                    · rw [if_neg c32] at H
                      have c32b0 : (t189.toList == (a1.extract (t192 : Int).toNat a1.size).toList) = false := beq_eq_false_iff_ne.mpr c32
                      have c32b1 : (t189.toList != (a1.extract (t192 : Int).toNat a1.size).toList) = true := bne_iff_ne.mpr c32
                      obtain rfl := Option.some.inj H
                      go_wp2
                      go_ret
                      exact ⟨by first | rfl | (simp [errW_none, errW_some] <;> rfl) | (simp [*, errW_none, errW_some] <;> rfl), by repeat (first | (with_reducible first | exact HB.out | apply below_alloc | apply pw_below_drewN | apply below_drew1) | exact HB.out)⟩
                  · rw [if_neg c31] at H
                    exact absurd H (by simp)
                · rw [if_neg c30] at H
                  exact absurd H (by simp)
              · rw [if_neg c29] at H
                have c29b0 : (t188 == t191) = false := beq_eq_false_iff_ne.mpr c29
                have c29b1 : (t188 != t191) = true := bne_iff_ne.mpr c29
                obtain rfl := Option.some.inj H
                go_wp2
                go_ret
                exact ⟨by first | rfl | (simp [errW_none, errW_some] <;> rfl) | (simp [*, errW_none, errW_some] <;> rfl), by repeat (first | (with_reducible first | exact HB.out | apply below_alloc | apply pw_below_drewN | apply below_drew1) | exact HB.out)⟩
            · rw [if_neg c28] at H
              have c28b0 : (t190 == 0) = false := beq_eq_false_iff_ne.mpr c28
              have c28b1 : (t190 != 0) = true := bne_iff_ne.mpr c28
              obtain rfl := Option.some.inj H
              go_wp2
              go_ret
              exact ⟨by first | rfl | (simp [errW_none, errW_some] <;> rfl) | (simp [*, errW_none, errW_some] <;> rfl), by repeat (first | (with_reducible first | exact HB.out | apply below_alloc | apply pw_below_drewN | apply below_drew1) | exact HB.out)⟩
        case rest =>
          clear HC21
          try clear c1
          try clear c2
          try clear p2
          try clear c3
          try clear c5
          try clear c7
          try clear c7b0
          try clear c7b1
          try clear c16
          try clear c19
          try clear c20
          try clear c23
          try clear c24
          try clear c24b0
          try clear c24b1
          try clear c25
          try clear c25b0
          try clear c25b1
          try clear c26
          try clear c26b0
          try clear c26b1
          try clear c27
          try clear c27b0
          try clear c27b1
          try clear c28
          try clear c28b0
          try clear c28b1
          try clear c29
          try clear c29b0
          try clear c29b1
          try clear c30
          try clear c30b0
          try clear c30b1
          try clear c31
          try clear c31b0
          try clear c31b1
          try clear c32
          try clear c32b0
          try clear c32b1
          try clear p2
          obtain ⟨kq, HA, HJ20, HB⟩ := hcut
          cases kq with
          | zero => exact absurd HA.out (by simp [knapsacklaw01_VarintTells.j1])
          | succ kj20 =>
            have H := HA.out
            clear HA
            simp only [knapsacklaw01_VarintTells.j1] at H
            by_cases c33 : t197 = 0
            · rw [if_pos c33] at H
              have c33b0 : (t197 == 0) = true := beq_iff_eq.mpr c33
              have c33b1 : (t197 != 0) = false := bne_eq_false_iff_eq.mpr c33
              clear c33
              replace H := Option.bind_eq_some_iff.mp H
              obtain ⟨t198, A340, H⟩ := H
              replace H : (if t198 = true then (if t195 = 2 then (if t193.toList = ([] : List UInt8) then (some (t194.toList == ([] : List UInt8))) else (some false)) else (some false)) else (some false)) = some r := H
              have A34 := Aside0.mk A340
              clear A340
              by_cases c35 : t198 = true
              · subst c35
                have H1 : (if t195 = 2 then (if t193.toList = ([] : List UInt8) then (some (t194.toList == ([] : List UInt8))) else (some false)) else (some false)) = some r := by rw [if_pos rfl] at H; exact H
                clear H
                have H := H1
                clear H1
                by_cases c36 : t195 = 2
                · rw [if_pos c36] at H
                  have c36b0 : (t195 == 2) = true := beq_iff_eq.mpr c36
                  have c36b1 : (t195 != 2) = false := bne_eq_false_iff_eq.mpr c36
                  clear c36
                  by_cases c37 : t193.toList = ([] : List UInt8)
                  · rw [if_pos c37] at H
                    have c37b0 : (t193.toList == ([] : List UInt8)) = true := beq_iff_eq.mpr c37
                    have c37b1 : (t193.toList != ([] : List UInt8)) = false := bne_eq_false_iff_eq.mpr c37
                    clear c37
                    obtain rfl := Option.some.inj H
                    go_wp2_with (first | ((with_reducible refine gate_callee (f := 27) rfl ?_); refine goesL_ (some 79) rfl rfl Try.func27 (by kernel_rfl) rfl #[] rfl (by (try simp only [List.map_toArray, List.map_cons, List.map_nil]); first | done | rfl | (simp only [List.length_drop, List.length_take]; rfl)) ?_; (with_reducible refine (knapsacklaw01_knows.calls kj20  true _ A34.out).mono ?_); rintro e w38 ⟨rfl, hb⟩; refine ⟨_, rfl, ?_⟩; have n0_ := Aside0.mk (below_step (by repeat (first | (with_reducible first | exact HB.out | apply below_alloc | apply pw_below_drewN | apply below_drew1) | exact HB.out)) hb); clear HB; have HB := n0_; clear n0_; (try clear hb); (try clear hb2); (try clear hk); (try clear hi)))
                    go_ret
                    exact ⟨by first | rfl | (simp [errW_none, errW_some] <;> rfl) | (simp [*, errW_none, errW_some] <;> rfl), by repeat (first | (with_reducible first | exact HB.out | apply below_alloc | apply pw_below_drewN | apply below_drew1) | exact HB.out)⟩
                  · rw [if_neg c37] at H
                    have c37b0 : (t193.toList == ([] : List UInt8)) = false := beq_eq_false_iff_ne.mpr c37
                    have c37b1 : (t193.toList != ([] : List UInt8)) = true := bne_iff_ne.mpr c37
                    obtain rfl := Option.some.inj H
                    go_wp2_with (first | ((with_reducible refine gate_callee (f := 27) rfl ?_); refine goesL_ (some 79) rfl rfl Try.func27 (by kernel_rfl) rfl #[] rfl (by (try simp only [List.map_toArray, List.map_cons, List.map_nil]); first | done | rfl | (simp only [List.length_drop, List.length_take]; rfl)) ?_; (with_reducible refine (knapsacklaw01_knows.calls kj20  true _ A34.out).mono ?_); rintro e w39 ⟨rfl, hb⟩; refine ⟨_, rfl, ?_⟩; have n0_ := Aside0.mk (below_step (by repeat (first | (with_reducible first | exact HB.out | apply below_alloc | apply pw_below_drewN | apply below_drew1) | exact HB.out)) hb); clear HB; have HB := n0_; clear n0_; (try clear hb); (try clear hb2); (try clear hk); (try clear hi)))
                    go_ret
                    exact ⟨by first | rfl | (simp [errW_none, errW_some] <;> rfl) | (simp [*, errW_none, errW_some] <;> rfl), by repeat (first | (with_reducible first | exact HB.out | apply below_alloc | apply pw_below_drewN | apply below_drew1) | exact HB.out)⟩
                · rw [if_neg c36] at H
                  have c36b0 : (t195 == 2) = false := beq_eq_false_iff_ne.mpr c36
                  have c36b1 : (t195 != 2) = true := bne_iff_ne.mpr c36
                  obtain rfl := Option.some.inj H
                  go_wp2_with (first | ((with_reducible refine gate_callee (f := 27) rfl ?_); refine goesL_ (some 79) rfl rfl Try.func27 (by kernel_rfl) rfl #[] rfl (by (try simp only [List.map_toArray, List.map_cons, List.map_nil]); first | done | rfl | (simp only [List.length_drop, List.length_take]; rfl)) ?_; (with_reducible refine (knapsacklaw01_knows.calls kj20  true _ A34.out).mono ?_); rintro e w40 ⟨rfl, hb⟩; refine ⟨_, rfl, ?_⟩; have n0_ := Aside0.mk (below_step (by repeat (first | (with_reducible first | exact HB.out | apply below_alloc | apply pw_below_drewN | apply below_drew1) | exact HB.out)) hb); clear HB; have HB := n0_; clear n0_; (try clear hb); (try clear hb2); (try clear hk); (try clear hi)))
                  go_ret
                  exact ⟨by first | rfl | (simp [errW_none, errW_some] <;> rfl) | (simp [*, errW_none, errW_some] <;> rfl), by repeat (first | (with_reducible first | exact HB.out | apply below_alloc | apply pw_below_drewN | apply below_drew1) | exact HB.out)⟩
              · replace c35 := Bool.eq_false_iff.mpr c35
                subst c35
                have H1 : (some false) = some r := by rw [if_neg (show ¬ (false = true) by decide)] at H; exact H
                clear H
                have H := H1
                clear H1
                obtain rfl := Option.some.inj H
                go_wp2_with (first | ((with_reducible refine gate_callee (f := 27) rfl ?_); refine goesL_ (some 79) rfl rfl Try.func27 (by kernel_rfl) rfl #[] rfl (by (try simp only [List.map_toArray, List.map_cons, List.map_nil]); first | done | rfl | (simp only [List.length_drop, List.length_take]; rfl)) ?_; (with_reducible refine (knapsacklaw01_knows.calls kj20  false _ A34.out).mono ?_); rintro e w41 ⟨rfl, hb⟩; refine ⟨_, rfl, ?_⟩; have n0_ := Aside0.mk (below_step (by repeat (first | (with_reducible first | exact HB.out | apply below_alloc | apply pw_below_drewN | apply below_drew1) | exact HB.out)) hb); clear HB; have HB := n0_; clear n0_; (try clear hb); (try clear hb2); (try clear hk); (try clear hi)))
                go_ret
                exact ⟨by first | rfl | (simp [errW_none, errW_some] <;> rfl) | (simp [*, errW_none, errW_some] <;> rfl), by repeat (first | (with_reducible first | exact HB.out | apply below_alloc | apply pw_below_drewN | apply below_drew1) | exact HB.out)⟩
            · rw [if_neg c33] at H
              have c33b0 : (t197 == 0) = false := beq_eq_false_iff_ne.mpr c33
              have c33b1 : (t197 != 0) = true := bne_iff_ne.mpr c33
              replace H := Option.bind_eq_some_iff.mp H
              obtain ⟨t199, A420, H⟩ := H
              replace H : (if t199 = true then (if t195 = 0 then (if t193.toList = t196.toList then (if 0 ≤ t197 then (if t197 ≤ (a1.size : Int) then (some (t194.toList == (a1.extract (t197 : Int).toNat a1.size).toList)) else (none)) else (none)) else (some false)) else (some false)) else (some false)) = some r := H
              have A42 := Aside0.mk A420
              clear A420
              by_cases c43 : t199 = true
              · subst c43
                have H1 : (if t195 = 0 then (if t193.toList = t196.toList then (if 0 ≤ t197 then (if t197 ≤ (a1.size : Int) then (some (t194.toList == (a1.extract (t197 : Int).toNat a1.size).toList)) else (none)) else (none)) else (some false)) else (some false)) = some r := by rw [if_pos rfl] at H; exact H
                clear H
                have H := H1
                clear H1
                by_cases c44 : t195 = 0
                · rw [if_pos c44] at H
                  have c44b0 : (t195 == 0) = true := beq_iff_eq.mpr c44
                  have c44b1 : (t195 != 0) = false := bne_eq_false_iff_eq.mpr c44
                  clear c44
                  by_cases c45 : t193.toList = t196.toList
                  · rw [if_pos c45] at H
                    have c45b0 : (t193.toList == t196.toList) = true := beq_iff_eq.mpr c45
                    have c45b1 : (t193.toList != t196.toList) = false := bne_eq_false_iff_eq.mpr c45
                    clear c45
                    by_cases c46 : 0 ≤ t197
                    · rw [if_pos c46] at H
                      have c46b0 := eq_true c46
                      have c46b1 : decide (0 ≤ t197) = true := decide_eq_true c46
                      clear c46
                      by_cases c47 : t197 ≤ (a1.size : Int)
                      · rw [if_pos c47] at H
                        have c47b0 := eq_true c47
                        have c47b1 : decide (t197 ≤ (a1.size : Int)) = true := decide_eq_true c47
                        clear c47
                        obtain rfl := Option.some.inj H
                        go_wp2_with (first | ((with_reducible refine gate_callee (f := 27) rfl ?_); refine goesL_ (some 92) rfl rfl Try.func27 (by kernel_rfl) rfl #[] rfl (by (try simp only [List.map_toArray, List.map_cons, List.map_nil]); first | done | rfl | (simp only [List.length_drop, List.length_take]; rfl)) ?_; (with_reducible refine (knapsacklaw01_knows.calls kj20  true _ A42.out).mono ?_); rintro e w48 ⟨rfl, hb⟩; refine ⟨_, rfl, ?_⟩; have n0_ := Aside0.mk (below_step (by repeat (first | (with_reducible first | exact HB.out | apply below_alloc | apply pw_below_drewN | apply below_drew1) | exact HB.out)) hb); clear HB; have HB := n0_; clear n0_; (try clear hb); (try clear hb2); (try clear hk); (try clear hi)))
                        go_ret
                        exact ⟨by first | rfl | (simp [errW_none, errW_some] <;> rfl) | (simp [*, errW_none, errW_some] <;> rfl), by repeat (first | (with_reducible first | exact HB.out | apply below_alloc | apply pw_below_drewN | apply below_drew1) | exact HB.out)⟩
                      · rw [if_neg c47] at H
                        exact absurd H (by simp)
                    · rw [if_neg c46] at H
                      exact absurd H (by simp)
                  · rw [if_neg c45] at H
                    have c45b0 : (t193.toList == t196.toList) = false := beq_eq_false_iff_ne.mpr c45
                    have c45b1 : (t193.toList != t196.toList) = true := bne_iff_ne.mpr c45
                    obtain rfl := Option.some.inj H
                    go_wp2_with (first | ((with_reducible refine gate_callee (f := 27) rfl ?_); refine goesL_ (some 92) rfl rfl Try.func27 (by kernel_rfl) rfl #[] rfl (by (try simp only [List.map_toArray, List.map_cons, List.map_nil]); first | done | rfl | (simp only [List.length_drop, List.length_take]; rfl)) ?_; (with_reducible refine (knapsacklaw01_knows.calls kj20  true _ A42.out).mono ?_); rintro e w49 ⟨rfl, hb⟩; refine ⟨_, rfl, ?_⟩; have n0_ := Aside0.mk (below_step (by repeat (first | (with_reducible first | exact HB.out | apply below_alloc | apply pw_below_drewN | apply below_drew1) | exact HB.out)) hb); clear HB; have HB := n0_; clear n0_; (try clear hb); (try clear hb2); (try clear hk); (try clear hi)))
                    go_ret
                    exact ⟨by first | rfl | (simp [errW_none, errW_some] <;> rfl) | (simp [*, errW_none, errW_some] <;> rfl), by repeat (first | (with_reducible first | exact HB.out | apply below_alloc | apply pw_below_drewN | apply below_drew1) | exact HB.out)⟩
                · rw [if_neg c44] at H
                  have c44b0 : (t195 == 0) = false := beq_eq_false_iff_ne.mpr c44
                  have c44b1 : (t195 != 0) = true := bne_iff_ne.mpr c44
                  obtain rfl := Option.some.inj H
                  go_wp2_with (first | ((with_reducible refine gate_callee (f := 27) rfl ?_); refine goesL_ (some 92) rfl rfl Try.func27 (by kernel_rfl) rfl #[] rfl (by (try simp only [List.map_toArray, List.map_cons, List.map_nil]); first | done | rfl | (simp only [List.length_drop, List.length_take]; rfl)) ?_; (with_reducible refine (knapsacklaw01_knows.calls kj20  true _ A42.out).mono ?_); rintro e w50 ⟨rfl, hb⟩; refine ⟨_, rfl, ?_⟩; have n0_ := Aside0.mk (below_step (by repeat (first | (with_reducible first | exact HB.out | apply below_alloc | apply pw_below_drewN | apply below_drew1) | exact HB.out)) hb); clear HB; have HB := n0_; clear n0_; (try clear hb); (try clear hb2); (try clear hk); (try clear hi)))
                  go_ret
                  exact ⟨by first | rfl | (simp [errW_none, errW_some] <;> rfl) | (simp [*, errW_none, errW_some] <;> rfl), by repeat (first | (with_reducible first | exact HB.out | apply below_alloc | apply pw_below_drewN | apply below_drew1) | exact HB.out)⟩
              · replace c43 := Bool.eq_false_iff.mpr c43
                subst c43
                have H1 : (some false) = some r := by rw [if_neg (show ¬ (false = true) by decide)] at H; exact H
                clear H
                have H := H1
                clear H1
                obtain rfl := Option.some.inj H
                go_wp2_with (first | ((with_reducible refine gate_callee (f := 27) rfl ?_); refine goesL_ (some 92) rfl rfl Try.func27 (by kernel_rfl) rfl #[] rfl (by (try simp only [List.map_toArray, List.map_cons, List.map_nil]); first | done | rfl | (simp only [List.length_drop, List.length_take]; rfl)) ?_; (with_reducible refine (knapsacklaw01_knows.calls kj20  false _ A42.out).mono ?_); rintro e w51 ⟨rfl, hb⟩; refine ⟨_, rfl, ?_⟩; have n0_ := Aside0.mk (below_step (by repeat (first | (with_reducible first | exact HB.out | apply below_alloc | apply pw_below_drewN | apply below_drew1) | exact HB.out)) hb); clear HB; have HB := n0_; clear n0_; (try clear hb); (try clear hb2); (try clear hk); (try clear hi)))
                go_ret
                exact ⟨by first | rfl | (simp [errW_none, errW_some] <;> rfl) | (simp [*, errW_none, errW_some] <;> rfl), by repeat (first | (with_reducible first | exact HB.out | apply below_alloc | apply pw_below_drewN | apply below_drew1) | exact HB.out)⟩

/-- THE ONE PURE STATEMENT of knapsacklaw01_VarintTells: yours. -/
def knapsacklaw01_VarintTells.Pure : Prop := ∀ (a0 : Int) (a1 : ByteArray) (a2 : ByteArray), (Lit.int .u64 a0).wf = true → a1.size ≤ 140737488351232 → a2.size ≤ 140737488351232 → ∃ k, knapsacklaw01_VarintTells.f k a0 a1 a2 = some true
theorem knapsacklaw01_VarintTells.walk (P : knapsacklaw01_VarintTells.Pure) (a0 : Int) (a1 : ByteArray) (a2 : ByteArray) (w : World) (w0 : (Lit.int .u64 a0).wf = true) (w1 : a1.size ≤ 140737488351232) (w2 : a2.size ≤ 140737488351232) :
    Calls Try.prog 5 #[.int .u64 a0, .string a1, .string a2] w fun e w' => e = .returned (.bool true) ∧ Below w.heap.size w w' := by
  obtain ⟨k, h⟩ := P a0 a1 a2 w0 w1 w2
  refine (knapsacklaw01_VarintTells.calls k a0 a1 a2 true w h).mono ?_
  rintro e w' ⟨rfl, hd⟩
  exact ⟨rfl, hd⟩

end Go.Proofs.Ytnmnplbjhejejaa.PA
