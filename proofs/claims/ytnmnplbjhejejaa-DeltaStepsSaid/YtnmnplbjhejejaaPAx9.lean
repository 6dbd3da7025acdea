-- Written by a turned copy of the printer (wip/patchprint.py of this repo), with contracts of this session beside; Lean checks it.
import Derived.Test.YtnmnplbjhejejaaPAx0
import Derived.Test.YtnmnplbjhejejaaPAx8
namespace Go.Proofs.Ytnmnplbjhejejaa.PA
open Go.RowKit Go.Proofs.YtnmnplbjhejejaaW.PrintWords Go.Proofs.YtnmnplbjhejejaaW.PrintLast Go.Proofs.YtnmnplbjhejejaaW.PrintMore
attribute [local go_sem] max2_int min2_int max_two min_two max_three min_three max_four min_four   -- for this text's walks alone
set_option linter.unusedVariables false
set_option linter.unusedSimpArgs false

/-! ### delta_Apply: function 29 -/
def delta_Apply.l0 : Nat → ByteArray → Int → ByteArray → List Int → Option (ByteArray × Int)
  | 0, _, _, _, _ => none
  | k + 1, x0, x9, x10, x12 => if x10.toList = ([] : List UInt8) then (if (IntKind.u64.wrap ((x12.length : Int))) = x9 then (some (strOfNums x12, 0)) else (some ((⟨#[]⟩ : ByteArray), 2))) else ((delta_step.f k x0 x10).bind fun bt233 => (if bt233.1.toList = ([] : List UInt8) then (some ((⟨#[]⟩ : ByteArray), 2)) else (if (IntKind.u64.wrap ((bt233.1.size : Int))) > (IntKind.u64.wrap (x9 - (IntKind.u64.wrap ((x12.length : Int))))) then (some ((⟨#[]⟩ : ByteArray), 2)) else (if x12.length + bt233.1.size < 140737488355328 then (delta_Apply.l0 k x0 x9 bt233.2 (x12 ++ bytesOf bt233.1)) else (none)))))
def delta_Apply.f (k : Nat) (a0 : ByteArray) (a1 : ByteArray) (a2 : Int) : Option (ByteArray × Int) := if a2 < 0 then (some ((⟨#[]⟩ : ByteArray), 1)) else ((delta_head.f k a1).bind fun bt229 => (if bt229.2.2.2 = 0 then (if bt229.1 = (IntKind.u64.wrap ((a0.size : Int))) then (if bt229.2.1 > (IntKind.u64.wrap (a2)) then (some ((⟨#[]⟩ : ByteArray), 3)) else (delta_Apply.l0 k a0 bt229.2.1 bt229.2.2.1 ([] : List Int))) else (some ((⟨#[]⟩ : ByteArray), 6))) else (some ((⟨#[]⟩ : ByteArray), 2))))
theorem delta_Apply.mono_l : ∀ k, (∀ y0 y1 y2 y3, LeO (delta_Apply.l0 k y0 y1 y2 y3) (delta_Apply.l0 (k + 1) y0 y1 y2 y3))
  | 0 => fun _ _ _ _ r h => by simp [delta_Apply.l0] at h
  | k + 1 => by
    have ih0 := delta_Apply.mono_l k
    · intro y0 y1 y2 y3
      unfold delta_Apply.l0
      repeat' first
      | (with_reducible exact ih0 _ _ _ _)
      | (with_reducible exact delta_head.mono _ _)
      | (with_reducible exact delta_step.mono _ _ _)
      | (with_reducible exact LeO.refl _)
      | (with_reducible exact LeO.none _)
      | (with_reducible refine LeO.ite ?_ ?_)
      | (with_reducible refine LeO.bind ?_ (fun _ => ?_))
      | exact ih0 _ _ _ _
      | exact delta_head.mono _ _
      | exact delta_step.mono _ _ _
      | exact LeO.none _
      | refine LeO.ite ?_ ?_
      | refine LeO.bind ?_ (fun _ => ?_)
theorem delta_Apply.mono : ∀ a0 a1 a2 k, LeO (delta_Apply.f k a0 a1 a2) (delta_Apply.f (k + 1) a0 a1 a2) := by
  intro a0 a1 a2 k
  have ih0 := delta_Apply.mono_l k
  unfold delta_Apply.f
  repeat' first
      | (with_reducible exact ih0 _ _ _ _)
      | (with_reducible exact delta_head.mono _ _)
      | (with_reducible exact delta_step.mono _ _ _)
      | (with_reducible exact LeO.refl _)
      | (with_reducible exact LeO.none _)
      | (with_reducible refine LeO.ite ?_ ?_)
      | (with_reducible refine LeO.bind ?_ (fun _ => ?_))
      | exact ih0 _ _ _ _
      | exact delta_head.mono _ _
      | exact delta_step.mono _ _ _
      | exact LeO.none _
      | refine LeO.ite ?_ ?_
      | refine LeO.bind ?_ (fun _ => ?_)
set_option maxHeartbeats 8000000 in
set_option maxRecDepth 100000 in
theorem delta_Apply.calls (k : Nat) (a0 : ByteArray) (a1 : ByteArray) (a2 : Int) (r1 : ByteArray) (r2 : Int) (w : World) (h : delta_Apply.f k a0 a1 a2 = some (r1, r2)) :
    Calls Try.prog 29 #[.string a0, .string a1, .int .i64 a2] w fun e w' => e = .returned (.tuple #[.string r1, .int .i64 r2]) ∧ Below w.heap.size w w' := by
  have HB := Aside0.mk (Below.refl w.heap.size w)
  have H : (if a2 < 0 then (some ((⟨#[]⟩ : ByteArray), 1)) else ((delta_head.f k a1).bind fun bt229 => (if bt229.2.2.2 = 0 then (if bt229.1 = (IntKind.u64.wrap ((a0.size : Int))) then (if bt229.2.1 > (IntKind.u64.wrap (a2)) then (some ((⟨#[]⟩ : ByteArray), 3)) else (delta_Apply.l0 k a0 bt229.2.1 bt229.2.2.1 ([] : List Int))) else (some ((⟨#[]⟩ : ByteArray), 6))) else (some ((⟨#[]⟩ : ByteArray), 2))))) = some (r1, r2) := h
  clear h
  by_cases c4 : a2 < 0
  · rw [if_pos c4] at H
    have c4b0 : decide (a2 < 0) = true := decide_eq_true c4
    clear c4
    simp only [Option.some.injEq, Prod.mk.injEq] at H
    obtain ⟨rfl, rfl⟩ := H
    go_enter Try.func29, Try.ntmps29
    go_wp2
    go_ret2
    exact ⟨by first | rfl | (simp [errW_none, errW_some] <;> rfl) | (simp [*, errW_none, errW_some] <;> rfl), by repeat (first | (with_reducible first | exact HB.out | apply below_alloc | apply pw_below_drewN | apply below_drew1) | exact HB.out)⟩
  · rw [if_neg c4] at H
    have c4b0 : decide (a2 < 0) = false := decide_eq_false c4
    clear c4
    replace H := Option.bind_eq_some_iff.mp H
    obtain ⟨⟨t229, t230, t231, t232⟩, A50, H⟩ := H
    replace H : (if t232 = 0 then (if t229 = (IntKind.u64.wrap ((a0.size : Int))) then (if t230 > (IntKind.u64.wrap (a2)) then (some ((⟨#[]⟩ : ByteArray), 3)) else (delta_Apply.l0 k a0 t230 t231 ([] : List Int))) else (some ((⟨#[]⟩ : ByteArray), 6))) else (some ((⟨#[]⟩ : ByteArray), 2))) = some (r1, r2) := H
    have A5 := Aside0.mk A50
    clear A50
    by_cases c6 : t232 = 0
    · rw [if_pos c6] at H
      have c6b0 : (t232 == 0) = true := beq_iff_eq.mpr c6
      have c6b1 : (t232 != 0) = false := bne_eq_false_iff_eq.mpr c6
      clear c6
      by_cases c7 : t229 = (IntKind.u64.wrap ((a0.size : Int)))
      · rw [if_pos c7] at H
        have c7b0 : (t229 == (IntKind.u64.wrap ((a0.size : Int)))) = true := beq_iff_eq.mpr c7
        have c7b1 : (t229 != (IntKind.u64.wrap ((a0.size : Int)))) = false := bne_eq_false_iff_eq.mpr c7
        clear c7
        by_cases c8 : t230 > (IntKind.u64.wrap (a2))
        · rw [if_pos c8] at H
          have c8b0 : decide ((IntKind.u64.wrap (a2)) < t230) = true := decide_eq_true c8
          clear c8
          simp only [Option.some.injEq, Prod.mk.injEq] at H
          obtain ⟨rfl, rfl⟩ := H
          go_enter Try.func29, Try.ntmps29
          go_wp2_with (first | ((with_reducible refine gate_callee (f := 45) rfl ?_); refine goesL_ (some 19) rfl rfl Try.func45 (by kernel_rfl) rfl #[.string a1] rfl (by (try simp only [List.map_toArray, List.map_cons, List.map_nil]); first | done | rfl | (simp only [List.length_drop, List.length_take]; rfl)) ?_; (with_reducible refine (delta_head.calls k a1 t229 t230 t231 t232 _ A5.out).mono ?_); rintro e w9 ⟨rfl, hb⟩; refine ⟨_, rfl, ?_⟩; have n0_ := Aside0.mk (below_step (by repeat (first | (with_reducible first | exact HB.out | apply below_alloc | apply pw_below_drewN | apply below_drew1) | exact HB.out)) hb); clear HB; have HB := n0_; clear n0_; (try clear hb); (try clear hb2); (try clear hk); (try clear hi)))
          go_ret2
          exact ⟨by first | rfl | (simp [errW_none, errW_some] <;> rfl) | (simp [*, errW_none, errW_some] <;> rfl), by repeat (first | (with_reducible first | exact HB.out | apply below_alloc | apply pw_below_drewN | apply below_drew1) | exact HB.out)⟩
        · rw [if_neg c8] at H
          have c8b0 : decide ((IntKind.u64.wrap (a2)) < t230) = false := decide_eq_false c8
          clear c8
          have H' := Aside0.mk H
          clear H
          go_enter Try.func29, Try.ntmps29
          go_wp2_with (first | ((with_reducible refine gate_callee (f := 45) rfl ?_); refine goesL_ (some 19) rfl rfl Try.func45 (by kernel_rfl) rfl #[.string a1] rfl (by (try simp only [List.map_toArray, List.map_cons, List.map_nil]); first | done | rfl | (simp only [List.length_drop, List.length_take]; rfl)) ?_; (with_reducible refine (delta_head.calls k a1 t229 t230 t231 t232 _ A5.out).mono ?_); rintro e w10 ⟨rfl, hb⟩; refine ⟨_, rfl, ?_⟩; have n0_ := Aside0.mk (below_step (by repeat (first | (with_reducible first | exact HB.out | apply below_alloc | apply pw_below_drewN | apply below_drew1) | exact HB.out)) hb); clear HB; have HB := n0_; clear n0_; (try clear hb); (try clear hb2); (try clear hk); (try clear hi)))
          go_loopg [10, 12] k (fun kq v10 v12 w' => ∃ (x10_1 : ByteArray) (x12_1 : List Int), v10 = .string x10_1 ∧ Aside0 (delta_Apply.l0 kq a0 t230 x10_1 x12_1 = some (r1, r2)) ∧ Aside0 (kq ≤ k) ∧ Aside0 (Kd.R (Kd.int .u8) 5 w' w.heap.size (fun _ => True) v12 x12_1) ∧ Aside0 (Below w.heap.size w w'))
          case atStart => exact ⟨(t231), (([] : List Int)), (by first | rfl | (simp; done) | (simp; omega) | (simp [*]; done)), H', ⟨Nat.le_refl _⟩, ⟨by first | exact Kd.R_nil _ _ _ _ _ | exact Kd.N_nil _ _ _ _ _ | exact Kd.V_nil _ _ _ _ _ | exact Kd.Q_nil _ _ _ _ _ | exact Kd.S_nil _ _ _ _ _⟩, ⟨by repeat (first | (with_reducible first | exact HB.out | apply below_alloc | apply pw_below_drewN | apply below_drew1) | exact HB.out)⟩⟩
          case round =>
            clear H'
            try clear c2
            try clear p2
            try clear c4
            try clear c4b0
            try clear c6
            try clear c6b0
            try clear c6b1
            try clear c7
            try clear c7b0
            try clear c7b1
            try clear c8
            try clear c8b0
            obtain ⟨x10_1, x12_1, rfl, HA, HK1, HO_12, HB⟩ := hrel
            cases gk with
            | zero => exact absurd HA.out (by simp [delta_Apply.l0])
            | succ k1 =>
              have H := HA.out
              clear HA
              simp only [delta_Apply.l0] at H
              by_cases c11 : x10_1.toList = ([] : List UInt8)
              · rw [if_pos c11] at H
                have c11b0 : (x10_1.toList == ([] : List UInt8)) = true := beq_iff_eq.mpr c11
                have c11b1 : (x10_1.toList != ([] : List UInt8)) = false := bne_eq_false_iff_eq.mpr c11
                clear c11
                by_cases c12 : (IntKind.u64.wrap ((x12_1.length : Int))) = t230
                · rw [if_pos c12] at H
                  have c12b0 : ((IntKind.u64.wrap ((x12_1.length : Int))) == t230) = true := beq_iff_eq.mpr c12
                  have c12b1 : ((IntKind.u64.wrap ((x12_1.length : Int))) != t230) = false := bne_eq_false_iff_eq.mpr c12
                  clear c12
                  simp only [Option.some.injEq, Prod.mk.injEq] at H
                  obtain ⟨rfl, rfl⟩ := H
                  obtain ⟨Ao13, co13, eo13⟩ := Kd.R_slice HO_12.out
                  subst eo13
                  have hcv14 := own_string (P := Try.prog) Try.underlying32 Try.underlying5 Try.underlying9 (Kd.own_of_R HO_12.out)
                  go_wp2
                  go_ret2
                  exact ⟨by first | rfl | (simp [errW_none, errW_some] <;> rfl) | (simp [*, errW_none, errW_some] <;> rfl), by repeat (first | (with_reducible first | exact HB.out | apply below_alloc | apply pw_below_drewN | apply below_drew1) | exact HB.out)⟩
                · rw [if_neg c12] at H
                  have c12b0 : ((IntKind.u64.wrap ((x12_1.length : Int))) == t230) = false := beq_eq_false_iff_ne.mpr c12
                  have c12b1 : ((IntKind.u64.wrap ((x12_1.length : Int))) != t230) = true := bne_iff_ne.mpr c12
                  simp only [Option.some.injEq, Prod.mk.injEq] at H
                  obtain ⟨rfl, rfl⟩ := H
                  obtain ⟨Ao15, co15, eo15⟩ := Kd.R_slice HO_12.out
                  subst eo15
                  go_wp2
                  go_ret2
                  exact ⟨by first | rfl | (simp [errW_none, errW_some] <;> rfl) | (simp [*, errW_none, errW_some] <;> rfl), by repeat (first | (with_reducible first | exact HB.out | apply below_alloc | apply pw_below_drewN | apply below_drew1) | exact HB.out)⟩
              · rw [if_neg c11] at H
                have c11b0 : (x10_1.toList == ([] : List UInt8)) = false := beq_eq_false_iff_ne.mpr c11
                have c11b1 : (x10_1.toList != ([] : List UInt8)) = true := bne_iff_ne.mpr c11
                replace H := Option.bind_eq_some_iff.mp H
                obtain ⟨⟨t233, t234⟩, A160, H⟩ := H
                replace H : (if t233.toList = ([] : List UInt8) then (some ((⟨#[]⟩ : ByteArray), 2)) else (if (IntKind.u64.wrap ((t233.size : Int))) > (IntKind.u64.wrap (t230 - (IntKind.u64.wrap ((x12_1.length : Int))))) then (some ((⟨#[]⟩ : ByteArray), 2)) else (if x12_1.length + t233.size < 140737488355328 then (delta_Apply.l0 k1 a0 t230 t234 (x12_1 ++ bytesOf t233)) else (none)))) = some (r1, r2) := H
                have A16 := Aside0.mk A160
                clear A160
                by_cases c17 : t233.toList = ([] : List UInt8)
                · rw [if_pos c17] at H
                  have c17b0 : (t233.toList == ([] : List UInt8)) = true := beq_iff_eq.mpr c17
                  have c17b1 : (t233.toList != ([] : List UInt8)) = false := bne_eq_false_iff_eq.mpr c17
                  clear c17
                  simp only [Option.some.injEq, Prod.mk.injEq] at H
                  obtain ⟨rfl, rfl⟩ := H
                  go_wp2_with (first | ((with_reducible refine gate_callee (f := 46) rfl ?_); refine goesL_ (some 43) rfl rfl Try.func46 (by kernel_rfl) rfl #[.string a0, .string x10_1] rfl (by (try simp only [List.map_toArray, List.map_cons, List.map_nil]); first | done | rfl | (simp only [List.length_drop, List.length_take]; rfl)) ?_; (with_reducible refine (delta_step.calls k1 a0 x10_1 t233 t234 _ A16.out).mono ?_); rintro e w18 ⟨rfl, hb⟩; refine ⟨_, rfl, ?_⟩; have n0_ := Aside0.mk (Kd.R_below (by (with_reducible repeat (first | apply Kd.R_alloc | apply Kd.R_drewN | apply Kd.R_drew)); exact HO_12.out) hb); have n1_ := Aside0.mk (below_step (by repeat (first | (with_reducible first | exact HB.out | apply below_alloc | apply pw_below_drewN | apply below_drew1) | exact HB.out)) hb); clear HO_12; clear HB; have HO_12 := n0_; have HB := n1_; clear n0_ n1_; (try clear hb); (try clear hb2); (try clear hk); (try clear hi)))
                  go_ret2
                  exact ⟨by first | rfl | (simp [errW_none, errW_some] <;> rfl) | (simp [*, errW_none, errW_some] <;> rfl), by repeat (first | (with_reducible first | exact HB.out | apply below_alloc | apply pw_below_drewN | apply below_drew1) | exact HB.out)⟩
                · rw [if_neg c17] at H
                  have c17b0 : (t233.toList == ([] : List UInt8)) = false := beq_eq_false_iff_ne.mpr c17
                  have c17b1 : (t233.toList != ([] : List UInt8)) = true := bne_iff_ne.mpr c17
                  by_cases c19 : (IntKind.u64.wrap ((t233.size : Int))) > (IntKind.u64.wrap (t230 - (IntKind.u64.wrap ((x12_1.length : Int)))))
                  · rw [if_pos c19] at H
                    have c19b0 : decide ((IntKind.u64.wrap (t230 - (IntKind.u64.wrap ((x12_1.length : Int))))) < (IntKind.u64.wrap ((t233.size : Int)))) = true := decide_eq_true c19
                    clear c19
                    simp only [Option.some.injEq, Prod.mk.injEq] at H
                    obtain ⟨rfl, rfl⟩ := H
                    go_wp2_with (first | ((with_reducible refine gate_callee (f := 46) rfl ?_); refine goesL_ (some 43) rfl rfl Try.func46 (by kernel_rfl) rfl #[.string a0, .string x10_1] rfl (by (try simp only [List.map_toArray, List.map_cons, List.map_nil]); first | done | rfl | (simp only [List.length_drop, List.length_take]; rfl)) ?_; (with_reducible refine (delta_step.calls k1 a0 x10_1 t233 t234 _ A16.out).mono ?_); rintro e w20 ⟨rfl, hb⟩; refine ⟨_, rfl, ?_⟩; have n0_ := Aside0.mk (Kd.R_below (by (with_reducible repeat (first | apply Kd.R_alloc | apply Kd.R_drewN | apply Kd.R_drew)); exact HO_12.out) hb); have n1_ := Aside0.mk (below_step (by repeat (first | (with_reducible first | exact HB.out | apply below_alloc | apply pw_below_drewN | apply below_drew1) | exact HB.out)) hb); clear HO_12; clear HB; have HO_12 := n0_; have HB := n1_; clear n0_ n1_; (try clear hb); (try clear hb2); (try clear hk); (try clear hi); obtain ⟨Ao21, co21, eo21⟩ := Kd.R_slice HO_12.out; subst eo21))
                    go_ret2
                    exact ⟨by first | rfl | (simp [errW_none, errW_some] <;> rfl) | (simp [*, errW_none, errW_some] <;> rfl), by repeat (first | (with_reducible first | exact HB.out | apply below_alloc | apply pw_below_drewN | apply below_drew1) | exact HB.out)⟩
                  · rw [if_neg c19] at H
                    have c19b0 : decide ((IntKind.u64.wrap (t230 - (IntKind.u64.wrap ((x12_1.length : Int))))) < (IntKind.u64.wrap ((t233.size : Int)))) = false := decide_eq_false c19
                    clear c19
                    by_cases c22 : x12_1.length + t233.size < 140737488355328
                    · rw [if_pos c22] at H
                      have LMc22 := Aside0.mk c22
                      clear c22
                      obtain ⟨y235, hy235⟩ : ∃ y_ : List Int, y_ = (x12_1 ++ bytesOf t233) := ⟨_, rfl⟩
                      replace H : (delta_Apply.l0 k1 a0 t230 t234 y235) = some (r1, r2) := by first | (rw [hy235]; with_reducible exact H) | (have H2_ := (Option.bind_some _ _).symm.trans H; rw [hy235]; with_reducible exact H2_) | (have H2_ := (Option.bind_some _ _).symm.trans H; with_reducible exact H2_) | with_reducible exact H | (rw [hy235]; exact H) | exact H
                      have Ny235 := Aside0.mk hy235
                      clear hy235
                      have H' := Aside0.mk H
                      clear H
                      go_wp2_with (first | ((with_reducible refine gate_callee (f := 46) rfl ?_); refine goesL_ (some 43) rfl rfl Try.func46 (by kernel_rfl) rfl #[.string a0, .string x10_1] rfl (by (try simp only [List.map_toArray, List.map_cons, List.map_nil]); first | done | rfl | (simp only [List.length_drop, List.length_take]; rfl)) ?_; (with_reducible refine (delta_step.calls k1 a0 x10_1 t233 t234 _ A16.out).mono ?_); rintro e w23 ⟨rfl, hb⟩; refine ⟨_, rfl, ?_⟩; have n0_ := Aside0.mk (Kd.R_below (by (with_reducible repeat (first | apply Kd.R_alloc | apply Kd.R_drewN | apply Kd.R_drew)); exact HO_12.out) hb); have n1_ := Aside0.mk (below_step (by repeat (first | (with_reducible first | exact HB.out | apply below_alloc | apply pw_below_drewN | apply below_drew1) | exact HB.out)) hb); clear HO_12; clear HB; have HO_12 := n0_; have HB := n1_; clear n0_ n1_; (try clear hb); (try clear hb2); (try clear hk); (try clear hi); obtain ⟨Ao24, co24, eo24⟩ := Kd.R_slice HO_12.out; subst eo24) | (at_builtin; refine print_append_str (w0 := w) w.heap.size rfl (.tmp 59) _ 32 9 5 rfl Try.underlying32 Try.underlying9 info5 (.slice Ao24 x12_1.length co24) x12_1 t233 rfl rfl ?aO ?aB ?aS ?aL ?_; (case aB => exact (by repeat (first | (with_reducible first | exact HB.out | apply below_alloc | apply pw_below_drewN | apply below_drew1) | exact HB.out))); (case aO => exact (Kd.own_of_R (by (with_reducible repeat (first | apply Kd.R_alloc | apply Kd.R_drewN | apply Kd.R_drew)); exact HO_12.out))); (case aS => exact (below_size (by repeat (first | (with_reducible first | exact HB.out | apply below_alloc | apply pw_below_drewN | apply below_drew1) | exact HB.out)))); (case aL => have := LMc22.out; omega); intro v236 w25 ho0 hb hg; have ho := Kd.R_of_own (h1 := fun _ => rfl) (ok := fun _ => True) ho0 (fun _ _ => trivial); clear ho0; have hat := True.intro; (first | rw [← Ny235.out] at ho | ((simp only [Int.reduceToNat] at ho); rw [← Ny235.out] at ho)); change Kd.R (Kd.int .u8) 5 w25 w.heap.size (fun _ => True) v236 y235 at ho; have n0_ := Aside0.mk (hb); have n1_ := Aside0.mk (ho); clear HB; clear HO_12; have HB := n0_; have HO237 := n1_; clear n0_ n1_; clear ho hb hg hat))
                      go_roundg k1
                      case measure => have := HK1.out; omega
                      case rel => exact ⟨(t234), (y235), (by first | rfl | (simp; done) | (simp; omega) | (simp [*]; done)), H', ⟨by have := HK1.out; omega⟩, ⟨by (with_reducible repeat (first | apply Kd.R_alloc | apply Kd.R_drewN | apply Kd.R_drew)); exact HO237.out⟩, ⟨by repeat (first | (with_reducible first | exact HB.out | apply below_alloc | apply pw_below_drewN | apply below_drew1) | exact HB.out)⟩⟩
                    · rw [if_neg c22] at H
                      exact absurd H (by simp)
      · rw [if_neg c7] at H
        have c7b0 : (t229 == (IntKind.u64.wrap ((a0.size : Int)))) = false := beq_eq_false_iff_ne.mpr c7
        have c7b1 : (t229 != (IntKind.u64.wrap ((a0.size : Int)))) = true := bne_iff_ne.mpr c7
        simp only [Option.some.injEq, Prod.mk.injEq] at H
        obtain ⟨rfl, rfl⟩ := H
        go_enter Try.func29, Try.ntmps29
        go_wp2_with (first | ((with_reducible refine gate_callee (f := 45) rfl ?_); refine goesL_ (some 19) rfl rfl Try.func45 (by kernel_rfl) rfl #[.string a1] rfl (by (try simp only [List.map_toArray, List.map_cons, List.map_nil]); first | done | rfl | (simp only [List.length_drop, List.length_take]; rfl)) ?_; (with_reducible refine (delta_head.calls k a1 t229 t230 t231 t232 _ A5.out).mono ?_); rintro e w26 ⟨rfl, hb⟩; refine ⟨_, rfl, ?_⟩; have n0_ := Aside0.mk (below_step (by repeat (first | (with_reducible first | exact HB.out | apply below_alloc | apply pw_below_drewN | apply below_drew1) | exact HB.out)) hb); clear HB; have HB := n0_; clear n0_; (try clear hb); (try clear hb2); (try clear hk); (try clear hi)))
        go_ret2
        exact ⟨by first | rfl | (simp [errW_none, errW_some] <;> rfl) | (simp [*, errW_none, errW_some] <;> rfl), by repeat (first | (with_reducible first | exact HB.out | apply below_alloc | apply pw_below_drewN | apply below_drew1) | exact HB.out)⟩
    · rw [if_neg c6] at H
      have c6b0 : (t232 == 0) = false := beq_eq_false_iff_ne.mpr c6
      have c6b1 : (t232 != 0) = true := bne_iff_ne.mpr c6
      simp only [Option.some.injEq, Prod.mk.injEq] at H
      obtain ⟨rfl, rfl⟩ := H
      go_enter Try.func29, Try.ntmps29
      go_wp2_with (first | ((with_reducible refine gate_callee (f := 45) rfl ?_); refine goesL_ (some 19) rfl rfl Try.func45 (by kernel_rfl) rfl #[.string a1] rfl (by (try simp only [List.map_toArray, List.map_cons, List.map_nil]); first | done | rfl | (simp only [List.length_drop, List.length_take]; rfl)) ?_; (with_reducible refine (delta_head.calls k a1 t229 t230 t231 t232 _ A5.out).mono ?_); rintro e w27 ⟨rfl, hb⟩; refine ⟨_, rfl, ?_⟩; have n0_ := Aside0.mk (below_step (by repeat (first | (with_reducible first | exact HB.out | apply below_alloc | apply pw_below_drewN | apply below_drew1) | exact HB.out)) hb); clear HB; have HB := n0_; clear n0_; (try clear hb); (try clear hb2); (try clear hk); (try clear hi)))
      go_ret2
      exact ⟨by first | rfl | (simp [errW_none, errW_some] <;> rfl) | (simp [*, errW_none, errW_some] <;> rfl), by repeat (first | (with_reducible first | exact HB.out | apply below_alloc | apply pw_below_drewN | apply below_drew1) | exact HB.out)⟩

/-! ### delta_Size: function 31 -/
def delta_Size.f (k : Nat) (a0 : ByteArray) : Option (Int × Int) := (delta_head.f k a0).bind fun bt238 => (if bt238.2.2.2 = 0 then (if bt238.2.1 > 2147483647 then (some (0, 2)) else (some (wrap64 (bt238.2.1), 0))) else (some (0, 2)))
theorem delta_Size.mono : ∀ a0 k, LeO (delta_Size.f k a0) (delta_Size.f (k + 1) a0) := by
  intro a0 k
  unfold delta_Size.f
  repeat' first
      | (with_reducible exact delta_head.mono _ _)
      | (with_reducible exact LeO.refl _)
      | (with_reducible exact LeO.none _)
      | (with_reducible refine LeO.ite ?_ ?_)
      | (with_reducible refine LeO.bind ?_ (fun _ => ?_))
      | exact delta_head.mono _ _
      | exact LeO.none _
      | refine LeO.ite ?_ ?_
      | refine LeO.bind ?_ (fun _ => ?_)
set_option maxHeartbeats 8000000 in
set_option maxRecDepth 100000 in
theorem delta_Size.calls (k : Nat) (a0 : ByteArray) (r1 : Int) (r2 : Int) (w : World) (h : delta_Size.f k a0 = some (r1, r2)) :
    Calls Try.prog 31 #[.string a0] w fun e w' => e = .returned (.tuple #[.int .i64 r1, .int .i64 r2]) ∧ Below w.heap.size w w' := by
  have HB := Aside0.mk (Below.refl w.heap.size w)
  have H : ((delta_head.f k a0).bind fun bt238 => (if bt238.2.2.2 = 0 then (if bt238.2.1 > 2147483647 then (some (0, 2)) else (some (wrap64 (bt238.2.1), 0))) else (some (0, 2)))) = some (r1, r2) := h
  clear h
  replace H := Option.bind_eq_some_iff.mp H
  obtain ⟨⟨t238, t239, t240, t241⟩, A20, H⟩ := H
  replace H : (if t241 = 0 then (if t239 > 2147483647 then (some (0, 2)) else (some (wrap64 (t239), 0))) else (some (0, 2))) = some (r1, r2) := H
  have A2 := Aside0.mk A20
  clear A20
  by_cases c3 : t241 = 0
  · rw [if_pos c3] at H
    have c3b0 : (t241 == 0) = true := beq_iff_eq.mpr c3
    have c3b1 : (t241 != 0) = false := bne_eq_false_iff_eq.mpr c3
    clear c3
    by_cases c4 : t239 > 2147483647
    · rw [if_pos c4] at H
      have c4b0 : decide (2147483647 < t239) = true := decide_eq_true c4
      clear c4
      simp only [Option.some.injEq, Prod.mk.injEq] at H
      obtain ⟨rfl, rfl⟩ := H
      go_enter Try.func31, Try.ntmps31
      go_wp2_with (first | ((with_reducible refine gate_callee (f := 45) rfl ?_); refine goesL_ (some 10) rfl rfl Try.func45 (by kernel_rfl) rfl #[.string a0] rfl (by (try simp only [List.map_toArray, List.map_cons, List.map_nil]); first | done | rfl | (simp only [List.length_drop, List.length_take]; rfl)) ?_; (with_reducible refine (delta_head.calls k a0 t238 t239 t240 t241 _ A2.out).mono ?_); rintro e w5 ⟨rfl, hb⟩; refine ⟨_, rfl, ?_⟩; have n0_ := Aside0.mk (below_step (by repeat (first | (with_reducible first | exact HB.out | apply below_alloc | apply pw_below_drewN | apply below_drew1) | exact HB.out)) hb); clear HB; have HB := n0_; clear n0_; (try clear hb); (try clear hb2); (try clear hk); (try clear hi)))
      go_ret2
      exact ⟨by first | rfl | (simp [errW_none, errW_some] <;> rfl) | (simp [*, errW_none, errW_some] <;> rfl), by repeat (first | (with_reducible first | exact HB.out | apply below_alloc | apply pw_below_drewN | apply below_drew1) | exact HB.out)⟩
    · rw [if_neg c4] at H
      have c4b0 : decide (2147483647 < t239) = false := decide_eq_false c4
      clear c4
      simp only [Option.some.injEq, Prod.mk.injEq] at H
      obtain ⟨rfl, rfl⟩ := H
      go_enter Try.func31, Try.ntmps31
      go_wp2_with (first | ((with_reducible refine gate_callee (f := 45) rfl ?_); refine goesL_ (some 10) rfl rfl Try.func45 (by kernel_rfl) rfl #[.string a0] rfl (by (try simp only [List.map_toArray, List.map_cons, List.map_nil]); first | done | rfl | (simp only [List.length_drop, List.length_take]; rfl)) ?_; (with_reducible refine (delta_head.calls k a0 t238 t239 t240 t241 _ A2.out).mono ?_); rintro e w6 ⟨rfl, hb⟩; refine ⟨_, rfl, ?_⟩; have n0_ := Aside0.mk (below_step (by repeat (first | (with_reducible first | exact HB.out | apply below_alloc | apply pw_below_drewN | apply below_drew1) | exact HB.out)) hb); clear HB; have HB := n0_; clear n0_; (try clear hb); (try clear hb2); (try clear hk); (try clear hi)))
      go_ret2
      exact ⟨by first | rfl | (simp [errW_none, errW_some] <;> rfl) | (simp [*, errW_none, errW_some] <;> rfl), by repeat (first | (with_reducible first | exact HB.out | apply below_alloc | apply pw_below_drewN | apply below_drew1) | exact HB.out)⟩
  · rw [if_neg c3] at H
    have c3b0 : (t241 == 0) = false := beq_eq_false_iff_ne.mpr c3
    have c3b1 : (t241 != 0) = true := bne_iff_ne.mpr c3
    simp only [Option.some.injEq, Prod.mk.injEq] at H
    obtain ⟨rfl, rfl⟩ := H
    go_enter Try.func31, Try.ntmps31
    go_wp2_with (first | ((with_reducible refine gate_callee (f := 45) rfl ?_); refine goesL_ (some 10) rfl rfl Try.func45 (by kernel_rfl) rfl #[.string a0] rfl (by (try simp only [List.map_toArray, List.map_cons, List.map_nil]); first | done | rfl | (simp only [List.length_drop, List.length_take]; rfl)) ?_; (with_reducible refine (delta_head.calls k a0 t238 t239 t240 t241 _ A2.out).mono ?_); rintro e w7 ⟨rfl, hb⟩; refine ⟨_, rfl, ?_⟩; have n0_ := Aside0.mk (below_step (by repeat (first | (with_reducible first | exact HB.out | apply below_alloc | apply pw_below_drewN | apply below_drew1) | exact HB.out)) hb); clear HB; have HB := n0_; clear n0_; (try clear hb); (try clear hb2); (try clear hk); (try clear hi)))
    go_ret2
    exact ⟨by first | rfl | (simp [errW_none, errW_some] <;> rfl) | (simp [*, errW_none, errW_some] <;> rfl), by repeat (first | (with_reducible first | exact HB.out | apply below_alloc | apply pw_below_drewN | apply below_drew1) | exact HB.out)⟩

/-! ### knapsacklaw06_knows: function 28 -/
def knapsacklaw06_knows.f (k : Nat)  : Option (Bool) := (delta_Apply.f k (⟨#[97, 98, 99, 100, 101, 102]⟩ : ByteArray) (⟨#[6, 5, 7, 1, 4, 120, 121]⟩ : ByteArray) 9).bind fun bt242 => ((delta_Apply.f k (⟨#[97, 98, 99]⟩ : ByteArray) (⟨#[6, 5, 7, 1, 4, 120, 121]⟩ : ByteArray) 9).bind fun bt244 => ((delta_Apply.f k (⟨#[97, 98, 99, 100, 101, 102]⟩ : ByteArray) (⟨#[6, 5, 7, 1, 4, 120, 121]⟩ : ByteArray) 4).bind fun bt246 => ((delta_Size.f k (⟨#[6, 5, 7, 1, 4, 120, 121]⟩ : ByteArray)).bind fun bt248 => (if bt242.1.toList = ([98, 99, 100, 120, 121] : List UInt8) then (if bt242.2 = 0 then (if bt244.2 = 6 then (if bt246.2 = 3 then (if bt248.1 = 5 then (some (bt248.2 == 0)) else (some false)) else (some false)) else (some false)) else (some false)) else (some false)))))
theorem knapsacklaw06_knows.mono : ∀ k, LeO (knapsacklaw06_knows.f k ) (knapsacklaw06_knows.f (k + 1) ) := by
  intro  k
  unfold knapsacklaw06_knows.f
  repeat' first
      | (with_reducible exact delta_Apply.mono _ _ _ _)
      | (with_reducible exact delta_Size.mono _ _)
      | (with_reducible exact LeO.refl _)
      | (with_reducible exact LeO.none _)
      | (with_reducible refine LeO.ite ?_ ?_)
      | (with_reducible refine LeO.bind ?_ (fun _ => ?_))
      | exact delta_Apply.mono _ _ _ _
      | exact delta_Size.mono _ _
      | exact LeO.none _
      | refine LeO.ite ?_ ?_
      | refine LeO.bind ?_ (fun _ => ?_)
set_option maxHeartbeats 8000000 in
set_option maxRecDepth 100000 in
theorem knapsacklaw06_knows.calls (k : Nat)  (r : Bool) (w : World) (h : knapsacklaw06_knows.f k  = some r) :
    Calls Try.prog 28 #[] w fun e w' => e = .returned (.bool r) ∧ Below w.heap.size w w' := by
  have HB := Aside0.mk (Below.refl w.heap.size w)
  have H : ((delta_Apply.f k (⟨#[97, 98, 99, 100, 101, 102]⟩ : ByteArray) (⟨#[6, 5, 7, 1, 4, 120, 121]⟩ : ByteArray) 9).bind fun bt242 => ((delta_Apply.f k (⟨#[97, 98, 99]⟩ : ByteArray) (⟨#[6, 5, 7, 1, 4, 120, 121]⟩ : ByteArray) 9).bind fun bt244 => ((delta_Apply.f k (⟨#[97, 98, 99, 100, 101, 102]⟩ : ByteArray) (⟨#[6, 5, 7, 1, 4, 120, 121]⟩ : ByteArray) 4).bind fun bt246 => ((delta_Size.f k (⟨#[6, 5, 7, 1, 4, 120, 121]⟩ : ByteArray)).bind fun bt248 => (if bt242.1.toList = ([98, 99, 100, 120, 121] : List UInt8) then (if bt242.2 = 0 then (if bt244.2 = 6 then (if bt246.2 = 3 then (if bt248.1 = 5 then (some (bt248.2 == 0)) else (some false)) else (some false)) else (some false)) else (some false)) else (some false)))))) = some r := h
  clear h
  replace H := Option.bind_eq_some_iff.mp H
  obtain ⟨⟨t242, t243⟩, A10, H⟩ := H
  replace H : ((delta_Apply.f k (⟨#[97, 98, 99]⟩ : ByteArray) (⟨#[6, 5, 7, 1, 4, 120, 121]⟩ : ByteArray) 9).bind fun bt244 => ((delta_Apply.f k (⟨#[97, 98, 99, 100, 101, 102]⟩ : ByteArray) (⟨#[6, 5, 7, 1, 4, 120, 121]⟩ : ByteArray) 4).bind fun bt246 => ((delta_Size.f k (⟨#[6, 5, 7, 1, 4, 120, 121]⟩ : ByteArray)).bind fun bt248 => (if t242.toList = ([98, 99, 100, 120, 121] : List UInt8) then (if t243 = 0 then (if bt244.2 = 6 then (if bt246.2 = 3 then (if bt248.1 = 5 then (some (bt248.2 == 0)) else (some false)) else (some false)) else (some false)) else (some false)) else (some false))))) = some r := H
  have A1 := Aside0.mk A10
  clear A10
  replace H := Option.bind_eq_some_iff.mp H
  obtain ⟨⟨t244, t245⟩, A20, H⟩ := H
  replace H : ((delta_Apply.f k (⟨#[97, 98, 99, 100, 101, 102]⟩ : ByteArray) (⟨#[6, 5, 7, 1, 4, 120, 121]⟩ : ByteArray) 4).bind fun bt246 => ((delta_Size.f k (⟨#[6, 5, 7, 1, 4, 120, 121]⟩ : ByteArray)).bind fun bt248 => (if t242.toList = ([98, 99, 100, 120, 121] : List UInt8) then (if t243 = 0 then (if t245 = 6 then (if bt246.2 = 3 then (if bt248.1 = 5 then (some (bt248.2 == 0)) else (some false)) else (some false)) else (some false)) else (some false)) else (some false)))) = some r := H
  have A2 := Aside0.mk A20
  clear A20
  replace H := Option.bind_eq_some_iff.mp H
  obtain ⟨⟨t246, t247⟩, A30, H⟩ := H
  replace H : ((delta_Size.f k (⟨#[6, 5, 7, 1, 4, 120, 121]⟩ : ByteArray)).bind fun bt248 => (if t242.toList = ([98, 99, 100, 120, 121] : List UInt8) then (if t243 = 0 then (if t245 = 6 then (if t247 = 3 then (if bt248.1 = 5 then (some (bt248.2 == 0)) else (some false)) else (some false)) else (some false)) else (some false)) else (some false))) = some r := H
  have A3 := Aside0.mk A30
  clear A30
  replace H := Option.bind_eq_some_iff.mp H
  obtain ⟨⟨t248, t249⟩, A40, H⟩ := H
  replace H : (if t242.toList = ([98, 99, 100, 120, 121] : List UInt8) then (if t243 = 0 then (if t245 = 6 then (if t247 = 3 then (if t248 = 5 then (some (t249 == 0)) else (some false)) else (some false)) else (some false)) else (some false)) else (some false)) = some r := H
  have A4 := Aside0.mk A40
  clear A40
  by_cases c5 : t242.toList = ([98, 99, 100, 120, 121] : List UInt8)
  · rw [if_pos c5] at H
    have c5b0 : (t242.toList == ([98, 99, 100, 120, 121] : List UInt8)) = true := beq_iff_eq.mpr c5
    have c5b1 : (t242.toList != ([98, 99, 100, 120, 121] : List UInt8)) = false := bne_eq_false_iff_eq.mpr c5
    clear c5
    by_cases c6 : t243 = 0
    · rw [if_pos c6] at H
      have c6b0 : (t243 == 0) = true := beq_iff_eq.mpr c6
      have c6b1 : (t243 != 0) = false := bne_eq_false_iff_eq.mpr c6
      clear c6
      by_cases c7 : t245 = 6
      · rw [if_pos c7] at H
        have c7b0 : (t245 == 6) = true := beq_iff_eq.mpr c7
        have c7b1 : (t245 != 6) = false := bne_eq_false_iff_eq.mpr c7
        clear c7
        by_cases c8 : t247 = 3
        · rw [if_pos c8] at H
          have c8b0 : (t247 == 3) = true := beq_iff_eq.mpr c8
          have c8b1 : (t247 != 3) = false := bne_eq_false_iff_eq.mpr c8
          clear c8
          by_cases c9 : t248 = 5
          · rw [if_pos c9] at H
            have c9b0 : (t248 == 5) = true := beq_iff_eq.mpr c9
            have c9b1 : (t248 != 5) = false := bne_eq_false_iff_eq.mpr c9
            clear c9
            obtain rfl := Option.some.inj H
            go_enter Try.func28, Try.ntmps28
            go_wp2_with (first | ((with_reducible refine gate_callee (f := 29) rfl ?_); refine goesL_ (some 10) rfl rfl Try.func29 (by kernel_rfl) rfl #[.string (⟨#[97, 98, 99, 100, 101, 102]⟩ : ByteArray), .string (⟨#[6, 5, 7, 1, 4, 120, 121]⟩ : ByteArray), .int .i64 9] rfl (by (try simp only [List.map_toArray, List.map_cons, List.map_nil]); first | done | rfl | (simp only [List.length_drop, List.length_take]; rfl)) ?_; (with_reducible refine (delta_Apply.calls k (⟨#[97, 98, 99, 100, 101, 102]⟩ : ByteArray) (⟨#[6, 5, 7, 1, 4, 120, 121]⟩ : ByteArray) 9 t242 t243 _ A1.out).mono ?_); rintro e w10 ⟨rfl, hb⟩; refine ⟨_, rfl, ?_⟩; have n0_ := Aside0.mk (below_step (by repeat (first | (with_reducible first | exact HB.out | apply below_alloc | apply pw_below_drewN | apply below_drew1) | exact HB.out)) hb); clear HB; have HB := n0_; clear n0_; (try clear hb); (try clear hb2); (try clear hk); (try clear hi)) | ((with_reducible refine gate_callee (f := 29) rfl ?_); refine goesL_ (some 14) rfl rfl Try.func29 (by kernel_rfl) rfl #[.string (⟨#[97, 98, 99]⟩ : ByteArray), .string (⟨#[6, 5, 7, 1, 4, 120, 121]⟩ : ByteArray), .int .i64 9] rfl (by (try simp only [List.map_toArray, List.map_cons, List.map_nil]); first | done | rfl | (simp only [List.length_drop, List.length_take]; rfl)) ?_; (with_reducible refine (delta_Apply.calls k (⟨#[97, 98, 99]⟩ : ByteArray) (⟨#[6, 5, 7, 1, 4, 120, 121]⟩ : ByteArray) 9 t244 t245 _ A2.out).mono ?_); rintro e w11 ⟨rfl, hb⟩; refine ⟨_, rfl, ?_⟩; have n0_ := Aside0.mk (below_step (by repeat (first | (with_reducible first | exact HB.out | apply below_alloc | apply pw_below_drewN | apply below_drew1) | exact HB.out)) hb); clear HB; have HB := n0_; clear n0_; (try clear hb); (try clear hb2); (try clear hk); (try clear hi)) | ((with_reducible refine gate_callee (f := 29) rfl ?_); refine goesL_ (some 18) rfl rfl Try.func29 (by kernel_rfl) rfl #[.string (⟨#[97, 98, 99, 100, 101, 102]⟩ : ByteArray), .string (⟨#[6, 5, 7, 1, 4, 120, 121]⟩ : ByteArray), .int .i64 4] rfl (by (try simp only [List.map_toArray, List.map_cons, List.map_nil]); first | done | rfl | (simp only [List.length_drop, List.length_take]; rfl)) ?_; (with_reducible refine (delta_Apply.calls k (⟨#[97, 98, 99, 100, 101, 102]⟩ : ByteArray) (⟨#[6, 5, 7, 1, 4, 120, 121]⟩ : ByteArray) 4 t246 t247 _ A3.out).mono ?_); rintro e w12 ⟨rfl, hb⟩; refine ⟨_, rfl, ?_⟩; have n0_ := Aside0.mk (below_step (by repeat (first | (with_reducible first | exact HB.out | apply below_alloc | apply pw_below_drewN | apply below_drew1) | exact HB.out)) hb); clear HB; have HB := n0_; clear n0_; (try clear hb); (try clear hb2); (try clear hk); (try clear hi)) | ((with_reducible refine gate_callee (f := 31) rfl ?_); refine goesL_ (some 22) rfl rfl Try.func31 (by kernel_rfl) rfl #[.string (⟨#[6, 5, 7, 1, 4, 120, 121]⟩ : ByteArray)] rfl (by (try simp only [List.map_toArray, List.map_cons, List.map_nil]); first | done | rfl | (simp only [List.length_drop, List.length_take]; rfl)) ?_; (with_reducible refine (delta_Size.calls k (⟨#[6, 5, 7, 1, 4, 120, 121]⟩ : ByteArray) t248 t249 _ A4.out).mono ?_); rintro e w13 ⟨rfl, hb⟩; refine ⟨_, rfl, ?_⟩; have n0_ := Aside0.mk (below_step (by repeat (first | (with_reducible first | exact HB.out | apply below_alloc | apply pw_below_drewN | apply below_drew1) | exact HB.out)) hb); clear HB; have HB := n0_; clear n0_; (try clear hb); (try clear hb2); (try clear hk); (try clear hi)))
            go_ret
            exact ⟨by first | rfl | (simp [errW_none, errW_some] <;> rfl) | (simp [*, errW_none, errW_some] <;> rfl), by repeat (first | (with_reducible first | exact HB.out | apply below_alloc | apply pw_below_drewN | apply below_drew1) | exact HB.out)⟩
          · rw [if_neg c9] at H
            have c9b0 : (t248 == 5) = false := beq_eq_false_iff_ne.mpr c9
            have c9b1 : (t248 != 5) = true := bne_iff_ne.mpr c9
            obtain rfl := Option.some.inj H
            go_enter Try.func28, Try.ntmps28
            go_wp2_with (first | ((with_reducible refine gate_callee (f := 29) rfl ?_); refine goesL_ (some 10) rfl rfl Try.func29 (by kernel_rfl) rfl #[.string (⟨#[97, 98, 99, 100, 101, 102]⟩ : ByteArray), .string (⟨#[6, 5, 7, 1, 4, 120, 121]⟩ : ByteArray), .int .i64 9] rfl (by (try simp only [List.map_toArray, List.map_cons, List.map_nil]); first | done | rfl | (simp only [List.length_drop, List.length_take]; rfl)) ?_; (with_reducible refine (delta_Apply.calls k (⟨#[97, 98, 99, 100, 101, 102]⟩ : ByteArray) (⟨#[6, 5, 7, 1, 4, 120, 121]⟩ : ByteArray) 9 t242 t243 _ A1.out).mono ?_); rintro e w14 ⟨rfl, hb⟩; refine ⟨_, rfl, ?_⟩; have n0_ := Aside0.mk (below_step (by repeat (first | (with_reducible first | exact HB.out | apply below_alloc | apply pw_below_drewN | apply below_drew1) | exact HB.out)) hb); clear HB; have HB := n0_; clear n0_; (try clear hb); (try clear hb2); (try clear hk); (try clear hi)) | ((with_reducible refine gate_callee (f := 29) rfl ?_); refine goesL_ (some 14) rfl rfl Try.func29 (by kernel_rfl) rfl #[.string (⟨#[97, 98, 99]⟩ : ByteArray), .string (⟨#[6, 5, 7, 1, 4, 120, 121]⟩ : ByteArray), .int .i64 9] rfl (by (try simp only [List.map_toArray, List.map_cons, List.map_nil]); first | done | rfl | (simp only [List.length_drop, List.length_take]; rfl)) ?_; (with_reducible refine (delta_Apply.calls k (⟨#[97, 98, 99]⟩ : ByteArray) (⟨#[6, 5, 7, 1, 4, 120, 121]⟩ : ByteArray) 9 t244 t245 _ A2.out).mono ?_); rintro e w15 ⟨rfl, hb⟩; refine ⟨_, rfl, ?_⟩; have n0_ := Aside0.mk (below_step (by repeat (first | (with_reducible first | exact HB.out | apply below_alloc | apply pw_below_drewN | apply below_drew1) | exact HB.out)) hb); clear HB; have HB := n0_; clear n0_; (try clear hb); (try clear hb2); (try clear hk); (try clear hi)) | ((with_reducible refine gate_callee (f := 29) rfl ?_); refine goesL_ (some 18) rfl rfl Try.func29 (by kernel_rfl) rfl #[.string (⟨#[97, 98, 99, 100, 101, 102]⟩ : ByteArray), .string (⟨#[6, 5, 7, 1, 4, 120, 121]⟩ : ByteArray), .int .i64 4] rfl (by (try simp only [List.map_toArray, List.map_cons, List.map_nil]); first | done | rfl | (simp only [List.length_drop, List.length_take]; rfl)) ?_; (with_reducible refine (delta_Apply.calls k (⟨#[97, 98, 99, 100, 101, 102]⟩ : ByteArray) (⟨#[6, 5, 7, 1, 4, 120, 121]⟩ : ByteArray) 4 t246 t247 _ A3.out).mono ?_); rintro e w16 ⟨rfl, hb⟩; refine ⟨_, rfl, ?_⟩; have n0_ := Aside0.mk (below_step (by repeat (first | (with_reducible first | exact HB.out | apply below_alloc | apply pw_below_drewN | apply below_drew1) | exact HB.out)) hb); clear HB; have HB := n0_; clear n0_; (try clear hb); (try clear hb2); (try clear hk); (try clear hi)) | ((with_reducible refine gate_callee (f := 31) rfl ?_); refine goesL_ (some 22) rfl rfl Try.func31 (by kernel_rfl) rfl #[.string (⟨#[6, 5, 7, 1, 4, 120, 121]⟩ : ByteArray)] rfl (by (try simp only [List.map_toArray, List.map_cons, List.map_nil]); first | done | rfl | (simp only [List.length_drop, List.length_take]; rfl)) ?_; (with_reducible refine (delta_Size.calls k (⟨#[6, 5, 7, 1, 4, 120, 121]⟩ : ByteArray) t248 t249 _ A4.out).mono ?_); rintro e w17 ⟨rfl, hb⟩; refine ⟨_, rfl, ?_⟩; have n0_ := Aside0.mk (below_step (by repeat (first | (with_reducible first | exact HB.out | apply below_alloc | apply pw_below_drewN | apply below_drew1) | exact HB.out)) hb); clear HB; have HB := n0_; clear n0_; (try clear hb); (try clear hb2); (try clear hk); (try clear hi)))
            go_ret
            exact ⟨by first | rfl | (simp [errW_none, errW_some] <;> rfl) | (simp [*, errW_none, errW_some] <;> rfl), by repeat (first | (with_reducible first | exact HB.out | apply below_alloc | apply pw_below_drewN | apply below_drew1) | exact HB.out)⟩
        · rw [if_neg c8] at H
          have c8b0 : (t247 == 3) = false := beq_eq_false_iff_ne.mpr c8
          have c8b1 : (t247 != 3) = true := bne_iff_ne.mpr c8
          obtain rfl := Option.some.inj H
          go_enter Try.func28, Try.ntmps28
          go_wp2_with (first | ((with_reducible refine gate_callee (f := 29) rfl ?_); refine goesL_ (some 10) rfl rfl Try.func29 (by kernel_rfl) rfl #[.string (⟨#[97, 98, 99, 100, 101, 102]⟩ : ByteArray), .string (⟨#[6, 5, 7, 1, 4, 120, 121]⟩ : ByteArray), .int .i64 9] rfl (by (try simp only [List.map_toArray, List.map_cons, List.map_nil]); first | done | rfl | (simp only [List.length_drop, List.length_take]; rfl)) ?_; (with_reducible refine (delta_Apply.calls k (⟨#[97, 98, 99, 100, 101, 102]⟩ : ByteArray) (⟨#[6, 5, 7, 1, 4, 120, 121]⟩ : ByteArray) 9 t242 t243 _ A1.out).mono ?_); rintro e w18 ⟨rfl, hb⟩; refine ⟨_, rfl, ?_⟩; have n0_ := Aside0.mk (below_step (by repeat (first | (with_reducible first | exact HB.out | apply below_alloc | apply pw_below_drewN | apply below_drew1) | exact HB.out)) hb); clear HB; have HB := n0_; clear n0_; (try clear hb); (try clear hb2); (try clear hk); (try clear hi)) | ((with_reducible refine gate_callee (f := 29) rfl ?_); refine goesL_ (some 14) rfl rfl Try.func29 (by kernel_rfl) rfl #[.string (⟨#[97, 98, 99]⟩ : ByteArray), .string (⟨#[6, 5, 7, 1, 4, 120, 121]⟩ : ByteArray), .int .i64 9] rfl (by (try simp only [List.map_toArray, List.map_cons, List.map_nil]); first | done | rfl | (simp only [List.length_drop, List.length_take]; rfl)) ?_; (with_reducible refine (delta_Apply.calls k (⟨#[97, 98, 99]⟩ : ByteArray) (⟨#[6, 5, 7, 1, 4, 120, 121]⟩ : ByteArray) 9 t244 t245 _ A2.out).mono ?_); rintro e w19 ⟨rfl, hb⟩; refine ⟨_, rfl, ?_⟩; have n0_ := Aside0.mk (below_step (by repeat (first | (with_reducible first | exact HB.out | apply below_alloc | apply pw_below_drewN | apply below_drew1) | exact HB.out)) hb); clear HB; have HB := n0_; clear n0_; (try clear hb); (try clear hb2); (try clear hk); (try clear hi)) | ((with_reducible refine gate_callee (f := 29) rfl ?_); refine goesL_ (some 18) rfl rfl Try.func29 (by kernel_rfl) rfl #[.string (⟨#[97, 98, 99, 100, 101, 102]⟩ : ByteArray), .string (⟨#[6, 5, 7, 1, 4, 120, 121]⟩ : ByteArray), .int .i64 4] rfl (by (try simp only [List.map_toArray, List.map_cons, List.map_nil]); first | done | rfl | (simp only [List.length_drop, List.length_take]; rfl)) ?_; (with_reducible refine (delta_Apply.calls k (⟨#[97, 98, 99, 100, 101, 102]⟩ : ByteArray) (⟨#[6, 5, 7, 1, 4, 120, 121]⟩ : ByteArray) 4 t246 t247 _ A3.out).mono ?_); rintro e w20 ⟨rfl, hb⟩; refine ⟨_, rfl, ?_⟩; have n0_ := Aside0.mk (below_step (by repeat (first | (with_reducible first | exact HB.out | apply below_alloc | apply pw_below_drewN | apply below_drew1) | exact HB.out)) hb); clear HB; have HB := n0_; clear n0_; (try clear hb); (try clear hb2); (try clear hk); (try clear hi)) | ((with_reducible refine gate_callee (f := 31) rfl ?_); refine goesL_ (some 22) rfl rfl Try.func31 (by kernel_rfl) rfl #[.string (⟨#[6, 5, 7, 1, 4, 120, 121]⟩ : ByteArray)] rfl (by (try simp only [List.map_toArray, List.map_cons, List.map_nil]); first | done | rfl | (simp only [List.length_drop, List.length_take]; rfl)) ?_; (with_reducible refine (delta_Size.calls k (⟨#[6, 5, 7, 1, 4, 120, 121]⟩ : ByteArray) t248 t249 _ A4.out).mono ?_); rintro e w21 ⟨rfl, hb⟩; refine ⟨_, rfl, ?_⟩; have n0_ := Aside0.mk (below_step (by repeat (first | (with_reducible first | exact HB.out | apply below_alloc | apply pw_below_drewN | apply below_drew1) | exact HB.out)) hb); clear HB; have HB := n0_; clear n0_; (try clear hb); (try clear hb2); (try clear hk); (try clear hi)))
          go_ret
          exact ⟨by first | rfl | (simp [errW_none, errW_some] <;> rfl) | (simp [*, errW_none, errW_some] <;> rfl), by repeat (first | (with_reducible first | exact HB.out | apply below_alloc | apply pw_below_drewN | apply below_drew1) | exact HB.out)⟩
      · rw [if_neg c7] at H
        have c7b0 : (t245 == 6) = false := beq_eq_false_iff_ne.mpr c7
        have c7b1 : (t245 != 6) = true := bne_iff_ne.mpr c7
        obtain rfl := Option.some.inj H
        go_enter Try.func28, Try.ntmps28
        go_wp2_with (first | ((with_reducible refine gate_callee (f := 29) rfl ?_); refine goesL_ (some 10) rfl rfl Try.func29 (by kernel_rfl) rfl #[.string (⟨#[97, 98, 99, 100, 101, 102]⟩ : ByteArray), .string (⟨#[6, 5, 7, 1, 4, 120, 121]⟩ : ByteArray), .int .i64 9] rfl (by (try simp only [List.map_toArray, List.map_cons, List.map_nil]); first | done | rfl | (simp only [List.length_drop, List.length_take]; rfl)) ?_; (with_reducible refine (delta_Apply.calls k (⟨#[97, 98, 99, 100, 101, 102]⟩ : ByteArray) (⟨#[6, 5, 7, 1, 4, 120, 121]⟩ : ByteArray) 9 t242 t243 _ A1.out).mono ?_); rintro e w22 ⟨rfl, hb⟩; refine ⟨_, rfl, ?_⟩; have n0_ := Aside0.mk (below_step (by repeat (first | (with_reducible first | exact HB.out | apply below_alloc | apply pw_below_drewN | apply below_drew1) | exact HB.out)) hb); clear HB; have HB := n0_; clear n0_; (try clear hb); (try clear hb2); (try clear hk); (try clear hi)) | ((with_reducible refine gate_callee (f := 29) rfl ?_); refine goesL_ (some 14) rfl rfl Try.func29 (by kernel_rfl) rfl #[.string (⟨#[97, 98, 99]⟩ : ByteArray), .string (⟨#[6, 5, 7, 1, 4, 120, 121]⟩ : ByteArray), .int .i64 9] rfl (by (try simp only [List.map_toArray, List.map_cons, List.map_nil]); first | done | rfl | (simp only [List.length_drop, List.length_take]; rfl)) ?_; (with_reducible refine (delta_Apply.calls k (⟨#[97, 98, 99]⟩ : ByteArray) (⟨#[6, 5, 7, 1, 4, 120, 121]⟩ : ByteArray) 9 t244 t245 _ A2.out).mono ?_); rintro e w23 ⟨rfl, hb⟩; refine ⟨_, rfl, ?_⟩; have n0_ := Aside0.mk (below_step (by repeat (first | (with_reducible first | exact HB.out | apply below_alloc | apply pw_below_drewN | apply below_drew1) | exact HB.out)) hb); clear HB; have HB := n0_; clear n0_; (try clear hb); (try clear hb2); (try clear hk); (try clear hi)) | ((with_reducible refine gate_callee (f := 29) rfl ?_); refine goesL_ (some 18) rfl rfl Try.func29 (by kernel_rfl) rfl #[.string (⟨#[97, 98, 99, 100, 101, 102]⟩ : ByteArray), .string (⟨#[6, 5, 7, 1, 4, 120, 121]⟩ : ByteArray), .int .i64 4] rfl (by (try simp only [List.map_toArray, List.map_cons, List.map_nil]); first | done | rfl | (simp only [List.length_drop, List.length_take]; rfl)) ?_; (with_reducible refine (delta_Apply.calls k (⟨#[97, 98, 99, 100, 101, 102]⟩ : ByteArray) (⟨#[6, 5, 7, 1, 4, 120, 121]⟩ : ByteArray) 4 t246 t247 _ A3.out).mono ?_); rintro e w24 ⟨rfl, hb⟩; refine ⟨_, rfl, ?_⟩; have n0_ := Aside0.mk (below_step (by repeat (first | (with_reducible first | exact HB.out | apply below_alloc | apply pw_below_drewN | apply below_drew1) | exact HB.out)) hb); clear HB; have HB := n0_; clear n0_; (try clear hb); (try clear hb2); (try clear hk); (try clear hi)) | ((with_reducible refine gate_callee (f := 31) rfl ?_); refine goesL_ (some 22) rfl rfl Try.func31 (by kernel_rfl) rfl #[.string (⟨#[6, 5, 7, 1, 4, 120, 121]⟩ : ByteArray)] rfl (by (try simp only [List.map_toArray, List.map_cons, List.map_nil]); first | done | rfl | (simp only [List.length_drop, List.length_take]; rfl)) ?_; (with_reducible refine (delta_Size.calls k (⟨#[6, 5, 7, 1, 4, 120, 121]⟩ : ByteArray) t248 t249 _ A4.out).mono ?_); rintro e w25 ⟨rfl, hb⟩; refine ⟨_, rfl, ?_⟩; have n0_ := Aside0.mk (below_step (by repeat (first | (with_reducible first | exact HB.out | apply below_alloc | apply pw_below_drewN | apply below_drew1) | exact HB.out)) hb); clear HB; have HB := n0_; clear n0_; (try clear hb); (try clear hb2); (try clear hk); (try clear hi)))
        go_ret
        exact ⟨by first | rfl | (simp [errW_none, errW_some] <;> rfl) | (simp [*, errW_none, errW_some] <;> rfl), by repeat (first | (with_reducible first | exact HB.out | apply below_alloc | apply pw_below_drewN | apply below_drew1) | exact HB.out)⟩
    · rw [if_neg c6] at H
      have c6b0 : (t243 == 0) = false := beq_eq_false_iff_ne.mpr c6
      have c6b1 : (t243 != 0) = true := bne_iff_ne.mpr c6
      obtain rfl := Option.some.inj H
      go_enter Try.func28, Try.ntmps28
      go_wp2_with (first | ((with_reducible refine gate_callee (f := 29) rfl ?_); refine goesL_ (some 10) rfl rfl Try.func29 (by kernel_rfl) rfl #[.string (⟨#[97, 98, 99, 100, 101, 102]⟩ : ByteArray), .string (⟨#[6, 5, 7, 1, 4, 120, 121]⟩ : ByteArray), .int .i64 9] rfl (by (try simp only [List.map_toArray, List.map_cons, List.map_nil]); first | done | rfl | (simp only [List.length_drop, List.length_take]; rfl)) ?_; (with_reducible refine (delta_Apply.calls k (⟨#[97, 98, 99, 100, 101, 102]⟩ : ByteArray) (⟨#[6, 5, 7, 1, 4, 120, 121]⟩ : ByteArray) 9 t242 t243 _ A1.out).mono ?_); rintro e w26 ⟨rfl, hb⟩; refine ⟨_, rfl, ?_⟩; have n0_ := Aside0.mk (below_step (by repeat (first | (with_reducible first | exact HB.out | apply below_alloc | apply pw_below_drewN | apply below_drew1) | exact HB.out)) hb); clear HB; have HB := n0_; clear n0_; (try clear hb); (try clear hb2); (try clear hk); (try clear hi)) | ((with_reducible refine gate_callee (f := 29) rfl ?_); refine goesL_ (some 14) rfl rfl Try.func29 (by kernel_rfl) rfl #[.string (⟨#[97, 98, 99]⟩ : ByteArray), .string (⟨#[6, 5, 7, 1, 4, 120, 121]⟩ : ByteArray), .int .i64 9] rfl (by (try simp only [List.map_toArray, List.map_cons, List.map_nil]); first | done | rfl | (simp only [List.length_drop, List.length_take]; rfl)) ?_; (with_reducible refine (delta_Apply.calls k (⟨#[97, 98, 99]⟩ : ByteArray) (⟨#[6, 5, 7, 1, 4, 120, 121]⟩ : ByteArray) 9 t244 t245 _ A2.out).mono ?_); rintro e w27 ⟨rfl, hb⟩; refine ⟨_, rfl, ?_⟩; have n0_ := Aside0.mk (below_step (by repeat (first | (with_reducible first | exact HB.out | apply below_alloc | apply pw_below_drewN | apply below_drew1) | exact HB.out)) hb); clear HB; have HB := n0_; clear n0_; (try clear hb); (try clear hb2); (try clear hk); (try clear hi)) | ((with_reducible refine gate_callee (f := 29) rfl ?_); refine goesL_ (some 18) rfl rfl Try.func29 (by kernel_rfl) rfl #[.string (⟨#[97, 98, 99, 100, 101, 102]⟩ : ByteArray), .string (⟨#[6, 5, 7, 1, 4, 120, 121]⟩ : ByteArray), .int .i64 4] rfl (by (try simp only [List.map_toArray, List.map_cons, List.map_nil]); first | done | rfl | (simp only [List.length_drop, List.length_take]; rfl)) ?_; (with_reducible refine (delta_Apply.calls k (⟨#[97, 98, 99, 100, 101, 102]⟩ : ByteArray) (⟨#[6, 5, 7, 1, 4, 120, 121]⟩ : ByteArray) 4 t246 t247 _ A3.out).mono ?_); rintro e w28 ⟨rfl, hb⟩; refine ⟨_, rfl, ?_⟩; have n0_ := Aside0.mk (below_step (by repeat (first | (with_reducible first | exact HB.out | apply below_alloc | apply pw_below_drewN | apply below_drew1) | exact HB.out)) hb); clear HB; have HB := n0_; clear n0_; (try clear hb); (try clear hb2); (try clear hk); (try clear hi)) | ((with_reducible refine gate_callee (f := 31) rfl ?_); refine goesL_ (some 22) rfl rfl Try.func31 (by kernel_rfl) rfl #[.string (⟨#[6, 5, 7, 1, 4, 120, 121]⟩ : ByteArray)] rfl (by (try simp only [List.map_toArray, List.map_cons, List.map_nil]); first | done | rfl | (simp only [List.length_drop, List.length_take]; rfl)) ?_; (with_reducible refine (delta_Size.calls k (⟨#[6, 5, 7, 1, 4, 120, 121]⟩ : ByteArray) t248 t249 _ A4.out).mono ?_); rintro e w29 ⟨rfl, hb⟩; refine ⟨_, rfl, ?_⟩; have n0_ := Aside0.mk (below_step (by repeat (first | (with_reducible first | exact HB.out | apply below_alloc | apply pw_below_drewN | apply below_drew1) | exact HB.out)) hb); clear HB; have HB := n0_; clear n0_; (try clear hb); (try clear hb2); (try clear hk); (try clear hi)))
      go_ret
      exact ⟨by first | rfl | (simp [errW_none, errW_some] <;> rfl) | (simp [*, errW_none, errW_some] <;> rfl), by repeat (first | (with_reducible first | exact HB.out | apply below_alloc | apply pw_below_drewN | apply below_drew1) | exact HB.out)⟩
  · rw [if_neg c5] at H
    have c5b0 : (t242.toList == ([98, 99, 100, 120, 121] : List UInt8)) = false := beq_eq_false_iff_ne.mpr c5
    have c5b1 : (t242.toList != ([98, 99, 100, 120, 121] : List UInt8)) = true := bne_iff_ne.mpr c5
    obtain rfl := Option.some.inj H
    go_enter Try.func28, Try.ntmps28
    go_wp2_with (first | ((with_reducible refine gate_callee (f := 29) rfl ?_); refine goesL_ (some 10) rfl rfl Try.func29 (by kernel_rfl) rfl #[.string (⟨#[97, 98, 99, 100, 101, 102]⟩ : ByteArray), .string (⟨#[6, 5, 7, 1, 4, 120, 121]⟩ : ByteArray), .int .i64 9] rfl (by (try simp only [List.map_toArray, List.map_cons, List.map_nil]); first | done | rfl | (simp only [List.length_drop, List.length_take]; rfl)) ?_; (with_reducible refine (delta_Apply.calls k (⟨#[97, 98, 99, 100, 101, 102]⟩ : ByteArray) (⟨#[6, 5, 7, 1, 4, 120, 121]⟩ : ByteArray) 9 t242 t243 _ A1.out).mono ?_); rintro e w30 ⟨rfl, hb⟩; refine ⟨_, rfl, ?_⟩; have n0_ := Aside0.mk (below_step (by repeat (first | (with_reducible first | exact HB.out | apply below_alloc | apply pw_below_drewN | apply below_drew1) | exact HB.out)) hb); clear HB; have HB := n0_; clear n0_; (try clear hb); (try clear hb2); (try clear hk); (try clear hi)) | ((with_reducible refine gate_callee (f := 29) rfl ?_); refine goesL_ (some 14) rfl rfl Try.func29 (by kernel_rfl) rfl #[.string (⟨#[97, 98, 99]⟩ : ByteArray), .string (⟨#[6, 5, 7, 1, 4, 120, 121]⟩ : ByteArray), .int .i64 9] rfl (by (try simp only [List.map_toArray, List.map_cons, List.map_nil]); first | done | rfl | (simp only [List.length_drop, List.length_take]; rfl)) ?_; (with_reducible refine (delta_Apply.calls k (⟨#[97, 98, 99]⟩ : ByteArray) (⟨#[6, 5, 7, 1, 4, 120, 121]⟩ : ByteArray) 9 t244 t245 _ A2.out).mono ?_); rintro e w31 ⟨rfl, hb⟩; refine ⟨_, rfl, ?_⟩; have n0_ := Aside0.mk (below_step (by repeat (first | (with_reducible first | exact HB.out | apply below_alloc | apply pw_below_drewN | apply below_drew1) | exact HB.out)) hb); clear HB; have HB := n0_; clear n0_; (try clear hb); (try clear hb2); (try clear hk); (try clear hi)) | ((with_reducible refine gate_callee (f := 29) rfl ?_); refine goesL_ (some 18) rfl rfl Try.func29 (by kernel_rfl) rfl #[.string (⟨#[97, 98, 99, 100, 101, 102]⟩ : ByteArray), .string (⟨#[6, 5, 7, 1, 4, 120, 121]⟩ : ByteArray), .int .i64 4] rfl (by (try simp only [List.map_toArray, List.map_cons, List.map_nil]); first | done | rfl | (simp only [List.length_drop, List.length_take]; rfl)) ?_; (with_reducible refine (delta_Apply.calls k (⟨#[97, 98, 99, 100, 101, 102]⟩ : ByteArray) (⟨#[6, 5, 7, 1, 4, 120, 121]⟩ : ByteArray) 4 t246 t247 _ A3.out).mono ?_); rintro e w32 ⟨rfl, hb⟩; refine ⟨_, rfl, ?_⟩; have n0_ := Aside0.mk (below_step (by repeat (first | (with_reducible first | exact HB.out | apply below_alloc | apply pw_below_drewN | apply below_drew1) | exact HB.out)) hb); clear HB; have HB := n0_; clear n0_; (try clear hb); (try clear hb2); (try clear hk); (try clear hi)) | ((with_reducible refine gate_callee (f := 31) rfl ?_); refine goesL_ (some 22) rfl rfl Try.func31 (by kernel_rfl) rfl #[.string (⟨#[6, 5, 7, 1, 4, 120, 121]⟩ : ByteArray)] rfl (by (try simp only [List.map_toArray, List.map_cons, List.map_nil]); first | done | rfl | (simp only [List.length_drop, List.length_take]; rfl)) ?_; (with_reducible refine (delta_Size.calls k (⟨#[6, 5, 7, 1, 4, 120, 121]⟩ : ByteArray) t248 t249 _ A4.out).mono ?_); rintro e w33 ⟨rfl, hb⟩; refine ⟨_, rfl, ?_⟩; have n0_ := Aside0.mk (below_step (by repeat (first | (with_reducible first | exact HB.out | apply below_alloc | apply pw_below_drewN | apply below_drew1) | exact HB.out)) hb); clear HB; have HB := n0_; clear n0_; (try clear hb); (try clear hb2); (try clear hk); (try clear hi)))
    go_ret
    exact ⟨by first | rfl | (simp [errW_none, errW_some] <;> rfl) | (simp [*, errW_none, errW_some] <;> rfl), by repeat (first | (with_reducible first | exact HB.out | apply below_alloc | apply pw_below_drewN | apply below_drew1) | exact HB.out)⟩

end Go.Proofs.Ytnmnplbjhejejaa.PA
