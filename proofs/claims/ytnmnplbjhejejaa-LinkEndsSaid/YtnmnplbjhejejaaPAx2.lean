-- Written by a turned copy of the printer (wip/patchprint.py of this repo), with contracts of this session beside; Lean checks it.
import Derived.Test.YtnmnplbjhejejaaPAx0
import Derived.Test.YtnmnplbjhejejaaPAx1
namespace Go.Proofs.Ytnmnplbjhejejaa.PA
open Go.RowKit Go.Proofs.YtnmnplbjhejejaaW.PrintWords Go.Proofs.YtnmnplbjhejejaaW.PrintLast Go.Proofs.YtnmnplbjhejejaaW.PrintMore
attribute [local go_sem] max2_int min2_int max_two min_two max_three min_three max_four min_four   -- for this text's walks alone
set_option linter.unusedVariables false
set_option linter.unusedSimpArgs false

/-! ### knapsackref03_Sum: function 16 -/
mutual
def knapsackref03_Sum.l0 : Nat → ByteArray → List Bool → Int → Option (Int)
  | 0, _, _, _ => none
  | k + 1, x0, x3, x4 => if x4 < (x0.size : Int) then (if 0 ≤ x4 then (knapsackref03_Sum.l1 k x0 x3 x4 (bt x0 x4) 0) else (none)) else (if x3.length + 32 < 140737488355328 then (knapsackref03_Sum.l2 k (x3 ++ List.replicate 32 false) 0) else (none))
def knapsackref03_Sum.l1 : Nat → ByteArray → List Bool → Int → Int → Int → Option (Int)
  | 0, _, _, _, _, _ => none
  | k + 1, x0, x3, x4, x5, x6 => if x6 < 8 then (if x3.length < 140737488355328 then (knapsackref03_Sum.l1 k x0 (x3 ++ [((Int.tmod x5 2) == 1)]) x4 ((Int.tdiv x5 2) % 256) (wrap64 (x6 + 1))) else (none)) else (knapsackref03_Sum.l0 k x0 x3 (wrap64 (x4 + 1)))
def knapsackref03_Sum.l2 : Nat → List Bool → Int → Option (Int)
  | 0, _, _ => none
  | k + 1, x3, x7 => if x7 < 32 then (if 0 ≤ x7 then (if x7 < (x3.length : Int) then (knapsackref03_Sum.l2 k (x3.set (x7 : Int).toNat (!(rdOf false x3 x7))) (wrap64 (x7 + 1))) else (none)) else (none)) else ((knapsackref03_powers.f).bind fun t125 => (knapsackref03_Sum.l3 k x3 t125 0))
def knapsackref03_Sum.l3 : Nat → List Bool → List Int → Int → Option (Int)
  | 0, _, _, _ => none
  | k + 1, x3, x8, x9 => if (wrap64 (x9 + 32)) < (x3.length : Int) then (if 0 ≤ x9 then (if x9 < (x3.length : Int) then (if rdOf false x3 x9 = true then (knapsackref03_Sum.l4 k x3 x8 x9 0) else (knapsackref03_Sum.l3 k x3 x8 (wrap64 (x9 + 1)))) else (none)) else (none)) else (knapsackref03_Sum.l5 k x3 0 0)
def knapsackref03_Sum.l4 : Nat → List Bool → List Int → Int → Int → Option (Int)
  | 0, _, _, _, _ => none
  | k + 1, x3, x8, x9, x10 => if x10 < (x8.length : Int) then (if 0 ≤ x10 then (if 0 ≤ (wrap64 ((wrap64 (x9 + 32)) - (rd x8 x10))) then (if (wrap64 ((wrap64 (x9 + 32)) - (rd x8 x10))) < (x3.length : Int) then (knapsackref03_Sum.l4 k (x3.set ((wrap64 ((wrap64 (x9 + 32)) - (rd x8 x10))) : Int).toNat (!(rdOf false x3 (wrap64 ((wrap64 (x9 + 32)) - (rd x8 x10)))))) x8 x9 (wrap64 (x10 + 1))) else (none)) else (none)) else (none)) else (knapsackref03_Sum.l3 k x3 x8 (wrap64 (x9 + 1)))
def knapsackref03_Sum.l5 : Nat → List Bool → Int → Int → Option (Int)
  | 0, _, _, _ => none
  | k + 1, x3, x12, x13 => if x13 < 32 then (if 0 ≤ (wrap64 ((wrap64 ((x3.length : Int) - 1)) - x13)) then (if (wrap64 ((wrap64 ((x3.length : Int) - 1)) - x13)) < (x3.length : Int) then (if (rdOf false x3 (wrap64 ((wrap64 ((x3.length : Int) - 1)) - x13)) = true) then (knapsackref03_Sum.l5 k x3 ((2 * x12) % 4294967296) (wrap64 (x13 + 1))) else (knapsackref03_Sum.l5 k x3 ((((2 * x12) % 4294967296) + 1) % 4294967296) (wrap64 (x13 + 1)))) else (none)) else (none)) else (some x12)
end
def knapsackref03_Sum.f (k : Nat) (a0 : ByteArray) : Option (Int) := knapsackref03_Sum.l0 k a0 ([] : List Bool) 0
theorem knapsackref03_Sum.mono_l : ∀ k, (∀ y0 y1 y2, LeO (knapsackref03_Sum.l0 k y0 y1 y2) (knapsackref03_Sum.l0 (k + 1) y0 y1 y2)) ∧ (∀ y0 y1 y2 y3 y4, LeO (knapsackref03_Sum.l1 k y0 y1 y2 y3 y4) (knapsackref03_Sum.l1 (k + 1) y0 y1 y2 y3 y4)) ∧ (∀ y0 y1, LeO (knapsackref03_Sum.l2 k y0 y1) (knapsackref03_Sum.l2 (k + 1) y0 y1)) ∧ (∀ y0 y1 y2, LeO (knapsackref03_Sum.l3 k y0 y1 y2) (knapsackref03_Sum.l3 (k + 1) y0 y1 y2)) ∧ (∀ y0 y1 y2 y3, LeO (knapsackref03_Sum.l4 k y0 y1 y2 y3) (knapsackref03_Sum.l4 (k + 1) y0 y1 y2 y3)) ∧ (∀ y0 y1 y2, LeO (knapsackref03_Sum.l5 k y0 y1 y2) (knapsackref03_Sum.l5 (k + 1) y0 y1 y2))
  | 0 => ⟨fun _ _ _ r h => by simp [knapsackref03_Sum.l0] at h, fun _ _ _ _ _ r h => by simp [knapsackref03_Sum.l1] at h, fun _ _ r h => by simp [knapsackref03_Sum.l2] at h, fun _ _ _ r h => by simp [knapsackref03_Sum.l3] at h, fun _ _ _ _ r h => by simp [knapsackref03_Sum.l4] at h, fun _ _ _ r h => by simp [knapsackref03_Sum.l5] at h⟩
  | k + 1 => by
    obtain ⟨ih0, ih1, ih2, ih3, ih4, ih5⟩ := knapsackref03_Sum.mono_l k
    refine ⟨?_, ?_, ?_, ?_, ?_, ?_⟩
    · intro y0 y1 y2
      unfold knapsackref03_Sum.l0
      repeat' first
      | (with_reducible exact ih0 _ _ _)
      | (with_reducible exact ih1 _ _ _ _ _)
      | (with_reducible exact ih2 _ _)
      | (with_reducible exact ih3 _ _ _)
      | (with_reducible exact ih4 _ _ _ _)
      | (with_reducible exact ih5 _ _ _)
      | (with_reducible exact LeO.refl _)
      | (with_reducible exact LeO.none _)
      | (with_reducible refine LeO.ite ?_ ?_)
      | (with_reducible refine LeO.bind ?_ (fun _ => ?_))
      | exact ih0 _ _ _
      | exact ih1 _ _ _ _ _
      | exact ih2 _ _
      | exact ih3 _ _ _
      | exact ih4 _ _ _ _
      | exact ih5 _ _ _
      | exact LeO.none _
      | refine LeO.ite ?_ ?_
      | refine LeO.bind ?_ (fun _ => ?_)
    · intro y0 y1 y2 y3 y4
      unfold knapsackref03_Sum.l1
      repeat' first
      | (with_reducible exact ih0 _ _ _)
      | (with_reducible exact ih1 _ _ _ _ _)
      | (with_reducible exact ih2 _ _)
      | (with_reducible exact ih3 _ _ _)
      | (with_reducible exact ih4 _ _ _ _)
      | (with_reducible exact ih5 _ _ _)
      | (with_reducible exact LeO.refl _)
      | (with_reducible exact LeO.none _)
      | (with_reducible refine LeO.ite ?_ ?_)
      | (with_reducible refine LeO.bind ?_ (fun _ => ?_))
      | exact ih0 _ _ _
      | exact ih1 _ _ _ _ _
      | exact ih2 _ _
      | exact ih3 _ _ _
      | exact ih4 _ _ _ _
      | exact ih5 _ _ _
      | exact LeO.none _
      | refine LeO.ite ?_ ?_
      | refine LeO.bind ?_ (fun _ => ?_)
    · intro y0 y1
      unfold knapsackref03_Sum.l2
      repeat' first
      | (with_reducible exact ih0 _ _ _)
      | (with_reducible exact ih1 _ _ _ _ _)
      | (with_reducible exact ih2 _ _)
      | (with_reducible exact ih3 _ _ _)
      | (with_reducible exact ih4 _ _ _ _)
      | (with_reducible exact ih5 _ _ _)
      | (with_reducible exact LeO.refl _)
      | (with_reducible exact LeO.none _)
      | (with_reducible refine LeO.ite ?_ ?_)
      | (with_reducible refine LeO.bind ?_ (fun _ => ?_))
      | exact ih0 _ _ _
      | exact ih1 _ _ _ _ _
      | exact ih2 _ _
      | exact ih3 _ _ _
      | exact ih4 _ _ _ _
      | exact ih5 _ _ _
      | exact LeO.none _
      | refine LeO.ite ?_ ?_
      | refine LeO.bind ?_ (fun _ => ?_)
    · intro y0 y1 y2
      unfold knapsackref03_Sum.l3
      repeat' first
      | (with_reducible exact ih0 _ _ _)
      | (with_reducible exact ih1 _ _ _ _ _)
      | (with_reducible exact ih2 _ _)
      | (with_reducible exact ih3 _ _ _)
      | (with_reducible exact ih4 _ _ _ _)
      | (with_reducible exact ih5 _ _ _)
      | (with_reducible exact LeO.refl _)
      | (with_reducible exact LeO.none _)
      | (with_reducible refine LeO.ite ?_ ?_)
      | (with_reducible refine LeO.bind ?_ (fun _ => ?_))
      | exact ih0 _ _ _
      | exact ih1 _ _ _ _ _
      | exact ih2 _ _
      | exact ih3 _ _ _
      | exact ih4 _ _ _ _
      | exact ih5 _ _ _
      | exact LeO.none _
      | refine LeO.ite ?_ ?_
      | refine LeO.bind ?_ (fun _ => ?_)
    · intro y0 y1 y2 y3
      unfold knapsackref03_Sum.l4
      repeat' first
      | (with_reducible exact ih0 _ _ _)
      | (with_reducible exact ih1 _ _ _ _ _)
      | (with_reducible exact ih2 _ _)
      | (with_reducible exact ih3 _ _ _)
      | (with_reducible exact ih4 _ _ _ _)
      | (with_reducible exact ih5 _ _ _)
      | (with_reducible exact LeO.refl _)
      | (with_reducible exact LeO.none _)
      | (with_reducible refine LeO.ite ?_ ?_)
      | (with_reducible refine LeO.bind ?_ (fun _ => ?_))
      | exact ih0 _ _ _
      | exact ih1 _ _ _ _ _
      | exact ih2 _ _
      | exact ih3 _ _ _
      | exact ih4 _ _ _ _
      | exact ih5 _ _ _
      | exact LeO.none _
      | refine LeO.ite ?_ ?_
      | refine LeO.bind ?_ (fun _ => ?_)
    · intro y0 y1 y2
      unfold knapsackref03_Sum.l5
      repeat' first
      | (with_reducible exact ih0 _ _ _)
      | (with_reducible exact ih1 _ _ _ _ _)
      | (with_reducible exact ih2 _ _)
      | (with_reducible exact ih3 _ _ _)
      | (with_reducible exact ih4 _ _ _ _)
      | (with_reducible exact ih5 _ _ _)
      | (with_reducible exact LeO.refl _)
      | (with_reducible exact LeO.none _)
      | (with_reducible refine LeO.ite ?_ ?_)
      | (with_reducible refine LeO.bind ?_ (fun _ => ?_))
      | exact ih0 _ _ _
      | exact ih1 _ _ _ _ _
      | exact ih2 _ _
      | exact ih3 _ _ _
      | exact ih4 _ _ _ _
      | exact ih5 _ _ _
      | exact LeO.none _
      | refine LeO.ite ?_ ?_
      | refine LeO.bind ?_ (fun _ => ?_)
theorem knapsackref03_Sum.mono : ∀ a0 k, LeO (knapsackref03_Sum.f k a0) (knapsackref03_Sum.f (k + 1) a0) := by
  intro a0 k
  obtain ⟨ih0, ih1, ih2, ih3, ih4, ih5⟩ := knapsackref03_Sum.mono_l k
  unfold knapsackref03_Sum.f
  repeat' first
      | (with_reducible exact ih0 _ _ _)
      | (with_reducible exact ih1 _ _ _ _ _)
      | (with_reducible exact ih2 _ _)
      | (with_reducible exact ih3 _ _ _)
      | (with_reducible exact ih4 _ _ _ _)
      | (with_reducible exact ih5 _ _ _)
      | (with_reducible exact LeO.refl _)
      | (with_reducible exact LeO.none _)
      | (with_reducible refine LeO.ite ?_ ?_)
      | (with_reducible refine LeO.bind ?_ (fun _ => ?_))
      | exact ih0 _ _ _
      | exact ih1 _ _ _ _ _
      | exact ih2 _ _
      | exact ih3 _ _ _
      | exact ih4 _ _ _ _
      | exact ih5 _ _ _
      | exact LeO.none _
      | refine LeO.ite ?_ ?_
      | refine LeO.bind ?_ (fun _ => ?_)
set_option maxHeartbeats 8000000 in
set_option maxRecDepth 100000 in
theorem knapsackref03_Sum.calls (k : Nat) (a0 : ByteArray) (r : Int) (w : World) (h : knapsackref03_Sum.f k a0 = some r) :
    Calls Try.prog 16 #[.string a0] w fun e w' => e = .returned (.int .u32 r) ∧ Below w.heap.size w w' := by
  have HB := Aside0.mk (Below.refl w.heap.size w)
  have H : (knapsackref03_Sum.l0 k a0 ([] : List Bool) 0) = some r := h
  clear h
  have H' := Aside0.mk H
  clear H
  go_enter Try.func16, Try.ntmps16
  go_wp2
  go_loopg [3, 4] k (fun kq v3 v4 w' => ∃ (x3_1 : List Bool) (x4_1 : Int), v4 = .int .i64 x4_1 ∧ Aside0 (knapsackref03_Sum.l0 kq a0 x3_1 x4_1 = some r) ∧ Aside0 (kq ≤ k) ∧ Aside0 (Kd.R Kd.bool 4 w' w.heap.size (fun _ => True) v3 x3_1) ∧ Aside0 (Below w.heap.size w w'))
  case atStart => exact ⟨(([] : List Bool)), (0), (by first | rfl | (simp; done) | (simp; omega) | (simp [*]; done)), H', ⟨Nat.le_refl _⟩, ⟨by first | exact Kd.R_nil _ _ _ _ _ | exact Kd.N_nil _ _ _ _ _ | exact Kd.V_nil _ _ _ _ _ | exact Kd.Q_nil _ _ _ _ _ | exact Kd.S_nil _ _ _ _ _⟩, ⟨by repeat (first | (with_reducible first | exact HB.out | apply below_alloc | apply pw_below_drewN | apply below_drew1) | exact HB.out)⟩⟩
  case round =>
    clear H'
    try clear c1
    obtain ⟨x3_1, x4_1, rfl, HA, HK1, HO_3, HB⟩ := hrel
    cases gk with
    | zero => exact absurd HA.out (by simp [knapsackref03_Sum.l0])
    | succ k1 =>
      have H := HA.out
      clear HA
      simp only [knapsackref03_Sum.l0] at H
      by_cases c2 : x4_1 < (a0.size : Int)
      · rw [if_pos c2] at H
        have c2b0 : decide (x4_1 < (a0.size : Int)) = true := decide_eq_true c2
        clear c2
        by_cases c3 : 0 ≤ x4_1
        · rw [if_pos c3] at H
          have c3b0 : decide (0 ≤ x4_1) = true := decide_eq_true c3
          clear c3
          have H' := Aside0.mk H
          clear H
          have p4 : 0 ≤ (x4_1 : Int) := of_decide_eq_true (by first | (with_reducible assumption) | assumption)
          have q4 : x4_1 < (a0.size : Int) := of_decide_eq_true (by first | (with_reducible assumption) | assumption)
          have hx4 := bt_at a0 x4_1
          replace p4 := eq_true p4
          replace q4 := eq_true q4
          go_wp2
          (try simp only [add_plain])
          go_loopg [3, 5, 6] k1 (fun kq v3 v5 v6 w' => ∃ (x3_2 : List Bool) (x5_2 : Int) (x6_2 : Int), v5 = .int .u8 x5_2 ∧ v6 = .int .i64 x6_2 ∧ Aside0 (knapsackref03_Sum.l1 kq a0 x3_2 x4_1 x5_2 x6_2 = some r) ∧ Aside0 (kq ≤ k1) ∧ Aside0 (Kd.R Kd.bool 4 w' w.heap.size (fun _ => True) v3 x3_2) ∧ Aside0 (Below w.heap.size w w'))
          case atStart => exact ⟨(x3_1), (bt a0 x4_1), (0), (by first | rfl | (simp; done) | (simp; omega) | (simp [*]; done)), (by first | rfl | (simp; done) | (simp; omega) | (simp [*]; done)), H', ⟨Nat.le_refl _⟩, ⟨by (with_reducible repeat (first | apply Kd.R_alloc | apply Kd.R_drewN | apply Kd.R_drew)); exact HO_3.out⟩, ⟨by repeat (first | (with_reducible first | exact HB.out | apply below_alloc | apply pw_below_drewN | apply below_drew1) | exact HB.out)⟩⟩
          case round =>
            clear H'
            try clear c1
            try clear c2
            try clear c2b0
            try clear p2
            try clear c3
            try clear c3b0
            try clear p4
            try clear q4
            try clear hx4
            try clear p4
            try clear q4
            obtain ⟨x3_2, x5_2, x6_2, rfl, rfl, HA, HK2, HO_3, HB⟩ := hrel
            cases gk with
            | zero => exact absurd HA.out (by simp [knapsackref03_Sum.l1])
            | succ k2 =>
              have H := HA.out
              clear HA
              simp only [knapsackref03_Sum.l1] at H
              by_cases c5 : x6_2 < 8
              · rw [if_pos c5] at H
                have c5b0 : decide (x6_2 < 8) = true := decide_eq_true c5
                clear c5
                by_cases c6 : x3_2.length < 140737488355328
                · rw [if_pos c6] at H
                  have LMc6 := Aside0.mk c6
                  clear c6
                  obtain ⟨y117, hy117⟩ : ∃ y_ : List Bool, y_ = (x3_2 ++ [((Int.tmod x5_2 2) == 1)]) := ⟨_, rfl⟩
                  replace H : (knapsackref03_Sum.l1 k2 a0 y117 x4_1 ((Int.tdiv x5_2 2) % 256) (wrap64 (x6_2 + 1))) = some r := by first | (rw [hy117]; with_reducible exact H) | (have H2_ := (Option.bind_some _ _).symm.trans H; rw [hy117]; with_reducible exact H2_) | (have H2_ := (Option.bind_some _ _).symm.trans H; with_reducible exact H2_) | with_reducible exact H | (rw [hy117]; exact H) | exact H
                  have Ny117 := Aside0.mk hy117
                  clear hy117
                  have H' := Aside0.mk H
                  clear H
                  go_wp2_with (first | ((with_reducible refine gate_builtin (b := .append) (xs := #[.tmp 27, .tmp 31]) rfl ?_); at_builtin; refine Kd.R_append Kd.bool (w0 := w) w.heap.size rfl (.tmp 27) (.tmp 31) 76 4 (.bool false) 1 rfl Try.underlying76 info4 rfl (by decide) (by omega) u3 x3_2 ((Int.tmod x5_2 2) == 1) [.bool ((Int.tmod x5_2 2) == 1)] (fun _ => True) (fun _ => False) rfl rfl ?aP (fun _ hk => hk.elim) ?aF ?aO ?aB ?aS ?aL ?_; (case aP => exact rfl); (case aB => exact (by repeat (first | (with_reducible first | exact HB.out | apply below_alloc | apply pw_below_drewN | apply below_drew1) | exact HB.out))); (case aF => exact (fun _ _ => trivial)); (case aO => exact (by (with_reducible repeat (first | apply Kd.R_alloc | apply Kd.R_drewN | apply Kd.R_drew)); exact HO_3.out)); (case aS => exact (below_size (by repeat (first | (with_reducible first | exact HB.out | apply below_alloc | apply pw_below_drewN | apply below_drew1) | exact HB.out)))); (case aL => have := LMc6.out; omega); intro v118 w7 ho hb hg hat; (first | rw [← Ny117.out] at ho | ((simp only [Int.reduceToNat] at ho); rw [← Ny117.out] at ho)); have n0_ := Aside0.mk (hb); have n1_ := Aside0.mk (ho); clear HB; clear HO_3; have HB := n0_; have HO119 := n1_; clear n0_ n1_; clear ho hb hg hat))
                  go_roundg k2
                  case measure => have := HK1.out; have := HK2.out; omega
                  case rel => exact ⟨(y117), ((Int.tdiv x5_2 2) % 256), (wrap64 (x6_2 + 1)), (by first | rfl | (simp; done) | (simp; omega) | (simp [*]; done)), (by first | rfl | (simp; done) | (simp; omega) | (simp [*]; done)), H', ⟨by have := HK1.out; have := HK2.out; omega⟩, ⟨by (with_reducible repeat (first | apply Kd.R_alloc | apply Kd.R_drewN | apply Kd.R_drew)); exact HO119.out⟩, ⟨by repeat (first | (with_reducible first | exact HB.out | apply below_alloc | apply pw_below_drewN | apply below_drew1) | exact HB.out)⟩⟩
                · rw [if_neg c6] at H
                  exact absurd H (by simp)
              · rw [if_neg c5] at H
                have c5b0 : decide (x6_2 < 8) = false := decide_eq_false c5
                clear c5
                have H' := Aside0.mk H
                clear H
                go_wp2
                go_roundg k2
                case measure => have := HK1.out; have := HK2.out; omega
                case rel => exact ⟨(x3_2), (wrap64 (x4_1 + 1)), (by first | rfl | (simp; done) | (simp; omega) | (simp [*]; done)), H', ⟨by have := HK1.out; have := HK2.out; omega⟩, ⟨by (with_reducible repeat (first | apply Kd.R_alloc | apply Kd.R_drewN | apply Kd.R_drew)); exact HO_3.out⟩, ⟨by repeat (first | (with_reducible first | exact HB.out | apply below_alloc | apply pw_below_drewN | apply below_drew1) | exact HB.out)⟩⟩
        · rw [if_neg c3] at H
          exact absurd H (by simp)
      · rw [if_neg c2] at H
        have c2b0 : decide (x4_1 < (a0.size : Int)) = false := decide_eq_false c2
        clear c2
        by_cases c8 : x3_1.length + 32 < 140737488355328
        · rw [if_pos c8] at H
          have LMc8 := Aside0.mk c8
          clear c8
          obtain ⟨y120, hy120⟩ : ∃ y_ : List Bool, y_ = (x3_1 ++ List.replicate 32 false) := ⟨_, rfl⟩
          replace H : (knapsackref03_Sum.l2 k1 y120 0) = some r := by first | (rw [hy120]; with_reducible exact H) | (have H2_ := (Option.bind_some _ _).symm.trans H; rw [hy120]; with_reducible exact H2_) | (have H2_ := (Option.bind_some _ _).symm.trans H; with_reducible exact H2_) | with_reducible exact H | (rw [hy120]; exact H) | exact H
          have Ny120 := Aside0.mk hy120
          clear hy120
          have H' := Aside0.mk H
          clear H
          go_wp2_with (first | (at_builtin; refine Kd.R_append_zeros Kd.bool (w0 := w) w.heap.size rfl (.tmp 35) (.const (.int .i64 32)) 76 3 4 (.bool false) 1 rfl Try.underlying76 Try.underlying3 info4 rfl (by decide) (by omega) u3 x3_1 false (32 : Int) (fun _ => True) rfl rfl rfl ?aF ?aO (by omega) ?aB ?aS ?aL ?_; (case aB => exact (by repeat (first | (with_reducible first | exact HB.out | apply below_alloc | apply pw_below_drewN | apply below_drew1) | exact HB.out))); (case aF => exact (fun _ _ => trivial)); (case aO => exact (by (with_reducible repeat (first | apply Kd.R_alloc | apply Kd.R_drewN | apply Kd.R_drew)); exact HO_3.out)); (case aS => exact (below_size (by repeat (first | (with_reducible first | exact HB.out | apply below_alloc | apply pw_below_drewN | apply below_drew1) | exact HB.out)))); (case aL => have := LMc8.out; omega); intro v121 w9 ho hb hg hat; (first | rw [← Ny120.out] at ho | ((simp only [Int.reduceToNat] at ho); rw [← Ny120.out] at ho)); have n0_ := Aside0.mk (hb); have n1_ := Aside0.mk (ho); clear HB; clear HO_3; have HB := n0_; have HO122 := n1_; clear n0_ n1_; clear ho hb hg hat))
          (try simp only [add_plain])
          go_loopg [7] k1 (fun kq v7 w' => ∃ (x3_2 : List Bool) (x7_2 : Int), v7 = .int .i64 x7_2 ∧ Aside0 (knapsackref03_Sum.l2 kq x3_2 x7_2 = some r) ∧ Aside0 (kq ≤ k1) ∧ Aside0 (Kd.R Kd.bool 4 w' w.heap.size (fun _ => True) v121 x3_2) ∧ Aside0 (Below w.heap.size w w'))
          case atStart => exact ⟨(y120), (0), (by first | rfl | (simp; done) | (simp; omega) | (simp [*]; done)), H', ⟨Nat.le_refl _⟩, ⟨by (with_reducible repeat (first | apply Kd.R_alloc | apply Kd.R_drewN | apply Kd.R_drew)); exact HO122.out⟩, ⟨by repeat (first | (with_reducible first | exact HB.out | apply below_alloc | apply pw_below_drewN | apply below_drew1) | exact HB.out)⟩⟩
          case round =>
            clear H'
            try clear c1
            try clear c2
            try clear c2b0
            try clear p2
            try clear c3
            try clear c3b0
            try clear p4
            try clear q4
            try clear hx4
            try clear c5
            try clear c5b0
            try clear c6
            try clear p6
            try clear c8
            try clear p2
            try clear p4
            try clear q4
            obtain ⟨x3_2, x7_2, rfl, HA, HK2, HO_3, HB⟩ := hrel
            cases gk with
            | zero => exact absurd HA.out (by simp [knapsackref03_Sum.l2])
            | succ k2 =>
              have H := HA.out
              clear HA
              simp only [knapsackref03_Sum.l2] at H
              by_cases c10 : x7_2 < 32
              · rw [if_pos c10] at H
                have c10b0 : decide (x7_2 < 32) = true := decide_eq_true c10
                clear c10
                by_cases c11 : 0 ≤ x7_2
                · rw [if_pos c11] at H
                  have c11b0 : decide (0 ≤ x7_2) = true := decide_eq_true c11
                  clear c11
                  by_cases c12 : x7_2 < (x3_2.length : Int)
                  · rw [if_pos c12] at H
                    have c12b0 : decide (x7_2 < (x3_2.length : Int)) = true := decide_eq_true c12
                    clear c12
                    obtain ⟨y124, hy124⟩ : ∃ y_ : List Bool, y_ = (x3_2.set (x7_2 : Int).toNat (!(rdOf false x3_2 x7_2))) := ⟨_, rfl⟩
                    replace H : (knapsackref03_Sum.l2 k2 y124 (wrap64 (x7_2 + 1))) = some r := by first | (rw [hy124]; with_reducible exact H) | (have H2_ := (Option.bind_some _ _).symm.trans H; rw [hy124]; with_reducible exact H2_) | (have H2_ := (Option.bind_some _ _).symm.trans H; with_reducible exact H2_) | with_reducible exact H | (rw [hy124]; exact H) | exact H
                    have Ny124 := Aside0.mk hy124
                    clear hy124
                    have H' := Aside0.mk H
                    clear H
                    obtain ⟨Ao14, co14, eo14⟩ := Kd.R_slice HO_3.out
                    subst eo14
                    have p123 : 0 ≤ (x7_2 : Int) := of_decide_eq_true (by first | (with_reducible assumption) | assumption)
                    have q123 : x7_2 < (x3_2.length : Int) := of_decide_eq_true (by first | (with_reducible assumption) | assumption)
                    obtain ⟨ad123, e123, hx123_0⟩ := Kd.at_bool (Kd.R_reads' HO_3.out).2.2 x7_2 p123 q123
                    cases e123
                    replace p123 := eq_true p123
                    replace q123 := eq_true q123
                    have p13 : 0 ≤ (x7_2 : Int) := of_decide_eq_true (by first | (with_reducible assumption) | assumption)
                    have q13 : (x7_2 : Int) < ((x3_2.length : Int) : Int) := of_decide_eq_true (by first | (with_reducible assumption) | assumption)
                    obtain ⟨go13, co13, eo13, gb13, gl13, cl13, HG13⟩ := Kd.R_form HO_3.out (by omega)
                    (first | cases eo13 | (injection eo13 with ea_ en_ ec_; (first | subst ea_ | (injection ea_ with ea_; subst ea_)); subst ec_; clear en_))
                    have GB13 := Aside0.mk gb13
                    have GG13 := Aside0.mk HG13
                    clear gb13 gl13 HG13
                    (first | simp only [add_plain] at hx123_0 | skip)
                    obtain ⟨hx13_0, hf13_0⟩ := Kd.R_celln false HO_3.out (x7_2 : Int) p13 q13
                    replace p13 := eq_true p13
                    replace q13 := eq_true q13
                    have HP15 := Kd.R_putg HO_3.out (x7_2 : Int) (!(rdOf false x3_2 x7_2))
                    go_wp2_with (first | ((with_reducible refine gate_store (t := 4) (p := 48) rfl ?_); refine store_event (t := 4) (p := 48) (v := ?vo_w16) (w1 := (wr.setCell ⟨go13, (x7_2 : Int).toNat, none⟩ (.bool (!(rdOf false x3_2 x7_2))))) ?hg ?ho ?hn ?hr ?_; (case ho => rfl); (case hg => rfl); (case hn => rfl); (case hr => first | (go_simp; done) | (go_simp; rfl)); intro w16 hw; have hg : wr.grownBy w16 (some go13) := (by rw [hw]; exact HP15.2); have hp_ : Kd.R Kd.bool 4 w16 w.heap.size (fun _ => True) (.slice (some ⟨go13, 0, none⟩) x3_2.length co14) y124 := (by rw [hw, Ny124.out]; exact HP15.1); clear HP15; have n0_ := Aside0.mk (hp_); have n1_ := Aside0.mk ((by rw [hw]; exact below_set (HB.out) GB13.out : Below w.heap.size w w16)); clear HO_3; clear HB; have HO_3 := n0_; have HB := n1_; clear n0_ n1_; clear hg hw hp_))
                    go_roundg k2
                    case measure => have := HK1.out; have := HK2.out; omega
                    case rel => exact ⟨(y124), (wrap64 (x7_2 + 1)), (by first | rfl | (simp; done) | (simp; omega) | (simp [*]; done)), H', ⟨by have := HK1.out; have := HK2.out; omega⟩, ⟨by (with_reducible repeat (first | apply Kd.R_alloc | apply Kd.R_drewN | apply Kd.R_drew)); exact HO_3.out⟩, ⟨by repeat (first | (with_reducible first | exact HB.out | apply below_alloc | apply pw_below_drewN | apply below_drew1) | exact HB.out)⟩⟩
                  · rw [if_neg c12] at H
                    exact absurd H (by simp)
                · rw [if_neg c11] at H
                  exact absurd H (by simp)
              · rw [if_neg c10] at H
                have c10b0 : decide (x7_2 < 32) = false := decide_eq_false c10
                clear c10
                replace H := Option.bind_eq_some_iff.mp H
                obtain ⟨t125, A170, H⟩ := H
                replace H : (knapsackref03_Sum.l3 k2 x3_2 t125 0) = some r := H
                have A17 := Aside0.mk A170
                clear A170
                have H' := Aside0.mk H
                clear H
                go_wp2_with (first | ((with_reducible refine gate_callee (f := 44) rfl ?_); refine goesL_ (some 49) rfl rfl Try.func44 (by kernel_rfl) rfl #[] rfl (by (try simp only [List.map_toArray, List.map_cons, List.map_nil]); first | done | rfl | (simp only [List.length_drop, List.length_take]; rfl)) ?_; (with_reducible refine (knapsackref03_powers.calls  t125 _ A17.out).mono ?_); rintro e w18 ⟨v126, rfl, ho0, hb⟩; refine ⟨_, rfl, ?_⟩; have n0_ := Aside0.mk (Kd.R_below (by (with_reducible repeat (first | apply Kd.R_alloc | apply Kd.R_drewN | apply Kd.R_drew)); exact HO_3.out) hb); have n1_ := Aside0.mk (Kd.R_lower ho0 (below_size (by repeat (first | (with_reducible first | exact HB.out | apply below_alloc | apply pw_below_drewN | apply below_drew1) | exact HB.out)))); have n2_ := Aside0.mk (below_step (by repeat (first | (with_reducible first | exact HB.out | apply below_alloc | apply pw_below_drewN | apply below_drew1) | exact HB.out)) hb); clear HO_3; clear HB; have HO_3 := n0_; have HO127 := n1_; have HB := n2_; clear n0_ n1_ n2_; (try clear hb); (try clear hb2); (try clear hk); (try clear hi); (try clear ho0)))
                (try simp only [add_plain])
                go_loopg [9] k2 (fun kq v9 w' => ∃ (x3_3 : List Bool) (x9_3 : Int), v9 = .int .i64 x9_3 ∧ Aside0 (knapsackref03_Sum.l3 kq x3_3 t125 x9_3 = some r) ∧ Aside0 (kq ≤ k2) ∧ Aside0 (Kd.R Kd.bool 4 w' w.heap.size (fun _ => True) v121 x3_3) ∧ Aside0 (Kd.R (Kd.int .i64) 3 w' w.heap.size (fun _ => True) v126 t125) ∧ Aside0 (Below w.heap.size w w'))
                case atStart => exact ⟨(x3_2), (0), (by first | rfl | (simp; done) | (simp; omega) | (simp [*]; done)), H', ⟨Nat.le_refl _⟩, ⟨by (with_reducible repeat (first | apply Kd.R_alloc | apply Kd.R_drewN | apply Kd.R_drew)); exact HO_3.out⟩, ⟨by (with_reducible repeat (first | apply Kd.R_alloc | apply Kd.R_drewN | apply Kd.R_drew)); exact HO127.out⟩, ⟨by repeat (first | (with_reducible first | exact HB.out | apply below_alloc | apply pw_below_drewN | apply below_drew1) | exact HB.out)⟩⟩
                case round =>
                  clear H'
                  try clear c1
                  try clear p1
                  try clear q1
                  try clear hx1
                  try clear hf1
                  try clear c2
                  try clear c2b0
                  try clear p2
                  try clear c3
                  try clear c3b0
                  try clear c4
                  try clear p4
                  try clear q4
                  try clear hx4
                  try clear c5
                  try clear c5b0
                  try clear c6
                  try clear p6
                  try clear c8
                  try clear c10
                  try clear c10b0
                  try clear c11
                  try clear c11b0
                  try clear c12
                  try clear c12b0
                  try clear p12
                  try clear q12
                  try clear hx12
                  try clear p13
                  try clear q13
                  try clear hx13
                  try clear hf13
                  try clear c16
                  try clear hx123_0
                  try clear hx13_0
                  try clear p123
                  try clear p13
                  try clear p2
                  try clear p4
                  try clear p6
                  try clear q123
                  try clear q13
                  try clear q4
                  obtain ⟨x3_3, x9_3, rfl, HA, HK3, HO_3, HO_8, HB⟩ := hrel
                  cases gk with
                  | zero => exact absurd HA.out (by simp [knapsackref03_Sum.l3])
                  | succ k3 =>
                    have H := HA.out
                    clear HA
                    simp only [knapsackref03_Sum.l3] at H
                    by_cases c19 : (wrap64 (x9_3 + 32)) < (x3_3.length : Int)
                    · rw [if_pos c19] at H
                      have c19b0 : decide ((wrap64 (x9_3 + 32)) < (x3_3.length : Int)) = true := decide_eq_true c19
                      clear c19
                      by_cases c20 : 0 ≤ x9_3
                      · rw [if_pos c20] at H
                        have c20b0 : decide (0 ≤ x9_3) = true := decide_eq_true c20
                        clear c20
                        by_cases c21 : x9_3 < (x3_3.length : Int)
                        · rw [if_pos c21] at H
                          have c21b0 : decide (x9_3 < (x3_3.length : Int)) = true := decide_eq_true c21
                          clear c21
                          obtain ⟨bq22, hbq22⟩ : ∃ b_ : Bool, b_ = (rdOf false x3_3 x9_3) := ⟨_, rfl⟩
                          replace H : (if bq22 = true then (knapsackref03_Sum.l4 k3 x3_3 t125 x9_3 0) else (knapsackref03_Sum.l3 k3 x3_3 t125 (wrap64 (x9_3 + 1)))) = some r := by rw [← hbq22] at H; exact H
                          have Nbq22 := Aside0.mk hbq22
                          clear hbq22
                          by_cases c23 : bq22 = true
                          · subst c23
                            have H1 : (knapsackref03_Sum.l4 k3 x3_3 t125 x9_3 0) = some r := by rw [if_pos rfl] at H; exact H
                            clear H
                            have H := H1
                            clear H1
                            have H' := Aside0.mk H
                            clear H
                            obtain ⟨Ao24, co24, eo24⟩ := Kd.R_slice HO_3.out
                            subst eo24
                            have p128 : 0 ≤ (x9_3 : Int) := of_decide_eq_true (by first | (with_reducible assumption) | assumption)
                            have q128 : x9_3 < (x3_3.length : Int) := of_decide_eq_true (by first | (with_reducible assumption) | assumption)
                            obtain ⟨ad128, e128, hx128_0⟩ := Kd.at_bool (Kd.R_reads' HO_3.out).2.2 x9_3 p128 q128
                            (try rw [← Nbq22.out] at hx128_0)
                            cases e128
                            replace p128 := eq_true p128
                            replace q128 := eq_true q128
                            go_wp2
                            (try simp only [add_plain])
                            (try generalize Value.pointer (some (ad128.add x9_3.toNat)) = up_)
                            go_loopg [10] k3 (fun kq v10 w' => ∃ (x3_4 : List Bool) (x10_4 : Int), v10 = .int .i64 x10_4 ∧ Aside0 (knapsackref03_Sum.l4 kq x3_4 t125 x9_3 x10_4 = some r) ∧ Aside0 (kq ≤ k3) ∧ Aside0 (Kd.R Kd.bool 4 w' w.heap.size (fun _ => True) (.slice (some ad128) x3_3.length co24) x3_4) ∧ Aside0 (Kd.R (Kd.int .i64) 3 w' w.heap.size (fun _ => True) v126 t125) ∧ Aside0 (Below w.heap.size w w'))
                            case atStart => exact ⟨(x3_3), (0), (by first | rfl | (simp; done) | (simp; omega) | (simp [*]; done)), H', ⟨Nat.le_refl _⟩, ⟨by (with_reducible repeat (first | apply Kd.R_alloc | apply Kd.R_drewN | apply Kd.R_drew)); exact HO_3.out⟩, ⟨by (with_reducible repeat (first | apply Kd.R_alloc | apply Kd.R_drewN | apply Kd.R_drew)); exact HO_8.out⟩, ⟨by repeat (first | (with_reducible first | exact HB.out | apply below_alloc | apply pw_below_drewN | apply below_drew1) | exact HB.out)⟩⟩
                            case round =>
                              clear H'
                              try clear c1
                              try clear p1
                              try clear q1
                              try clear hx1
                              try clear hf1
                              try clear c2
                              try clear c2b0
                              try clear p2
                              try clear q2
                              try clear c3
                              try clear c3b0
                              try clear c4
                              try clear p4
                              try clear q4
                              try clear hx4
                              try clear c5
                              try clear c5b0
                              try clear c6
                              try clear p6
                              try clear c8
                              try clear c10
                              try clear c10b0
                              try clear c11
                              try clear c11b0
                              try clear c12
                              try clear c12b0
                              try clear p12
                              try clear q12
                              try clear hx12
                              try clear p13
                              try clear q13
                              try clear hx13
                              try clear hf13
                              try clear c16
                              try clear c19
                              try clear c19b0
                              try clear c20
                              try clear c20b0
                              try clear c21
                              try clear c21b0
                              try clear q22
                              try clear c23
                              try clear hx123_0
                              try clear hx128_0
                              try clear hx13_0
                              try clear p1
                              try clear p12
                              try clear p123
                              try clear p128
                              try clear p13
                              try clear p2
                              try clear p4
                              try clear p6
                              try clear q1
                              try clear q12
                              try clear q123
                              try clear q128
                              try clear q13
                              try clear q4
                              obtain ⟨x3_4, x10_4, rfl, HA, HK4, HO_3, HO_8, HB⟩ := hrel
                              have hl3_4 := (Kd.R_reads' HO_3.out).1
                              rw [hl3_4] at HO_3
                              (try simp only [hl3_4])
                              (try simp only [hl3_4] at HO_8)
                              cases gk with
                              | zero => exact absurd HA.out (by simp [knapsackref03_Sum.l4])
                              | succ k4 =>
                                have H := HA.out
                                clear HA
                                simp only [knapsackref03_Sum.l4] at H
                                by_cases c25 : x10_4 < (t125.length : Int)
                                · rw [if_pos c25] at H
                                  have c25b0 : decide (x10_4 < (t125.length : Int)) = true := decide_eq_true c25
                                  clear c25
                                  by_cases c26 : 0 ≤ x10_4
                                  · rw [if_pos c26] at H
                                    have c26b0 : decide (0 ≤ x10_4) = true := decide_eq_true c26
                                    clear c26
                                    obtain ⟨ji27, hji27⟩ : ∃ j_ : Int, (wrap64 ((wrap64 (x9_3 + 32)) - (rd t125 x10_4))) = j_ := ⟨_, rfl⟩
                                    replace H : (if 0 ≤ (ji27) then (if (ji27) < (x3_4.length : Int) then (knapsackref03_Sum.l4 k4 (x3_4.set ((ji27) : Int).toNat (!(rdOf false x3_4 (ji27)))) t125 x9_3 (wrap64 (x10_4 + 1))) else (none)) else (none)) = some r := by first | (rw [hji27] at H; exact H) | (simp only [hji27] at H ⊢; exact H)
                                    have hji27w : (IntKind.i64.wrap ((wrap64 (x9_3 + 32)) - (rd t125 x10_4))) = ji27 := (i64_w _).trans hji27
                                    by_cases c28 : 0 ≤ (ji27)
                                    · rw [if_pos c28] at H
                                      have c28b0 : decide (0 ≤ (ji27)) = true := decide_eq_true c28
                                      clear c28
                                      by_cases c29 : (ji27) < (x3_4.length : Int)
                                      · rw [if_pos c29] at H
                                        have c29b0 : decide ((ji27) < (x3_4.length : Int)) = true := decide_eq_true c29
                                        clear c29
                                        obtain ⟨y131, hy131⟩ : ∃ y_ : List Bool, y_ = (x3_4.set ((ji27) : Int).toNat (!(rdOf false x3_4 (ji27)))) := ⟨_, rfl⟩
                                        replace H : (knapsackref03_Sum.l4 k4 y131 t125 x9_3 (wrap64 (x10_4 + 1))) = some r := by first | (rw [hy131]; with_reducible exact H) | (have H2_ := (Option.bind_some _ _).symm.trans H; rw [hy131]; with_reducible exact H2_) | (have H2_ := (Option.bind_some _ _).symm.trans H; with_reducible exact H2_) | with_reducible exact H | (rw [hy131]; exact H) | exact H
                                        have Ny131 := Aside0.mk hy131
                                        clear hy131
                                        have H' := Aside0.mk H
                                        clear H
                                        obtain ⟨Ao31, co31, eo31⟩ := Kd.R_slice HO_8.out
                                        subst eo31
                                        have p129 : 0 ≤ (x10_4 : Int) := of_decide_eq_true (by first | (with_reducible assumption) | assumption)
                                        have q129 : x10_4 < (t125.length : Int) := of_decide_eq_true (by first | (with_reducible assumption) | assumption)
                                        obtain ⟨ad129, e129, hx129_0⟩ := Kd.at_int (Kd.R_reads' HO_8.out).2.2 x10_4 p129 q129
                                        cases e129
                                        replace p129 := eq_true p129
                                        replace q129 := eq_true q129
                                        have p130 : 0 ≤ ((ji27) : Int) := of_decide_eq_true (by first | (with_reducible assumption) | assumption)
                                        have q130 : (ji27) < (x3_4.length : Int) := of_decide_eq_true (by first | (with_reducible assumption) | assumption)
                                        obtain ⟨ad130, e130, hx130_0⟩ := Kd.at_bool (Kd.R_reads' HO_3.out).2.2 (ji27) p130 q130
                                        (try rw [← Nbq22.out] at hx130_0)
                                        obtain rfl : ad128 = ad130 := (by injection e130)
                                        replace p130 := eq_true p130
                                        replace q130 := eq_true q130
                                        have p30 : 0 ≤ ((ji27) : Int) := of_decide_eq_true (by first | (with_reducible assumption) | assumption)
                                        have q30 : ((ji27) : Int) < ((x3_4.length : Int) : Int) := of_decide_eq_true (by first | (with_reducible assumption) | assumption)
                                        obtain ⟨go30, co30, eo30, gb30, gl30, cl30, HG30⟩ := Kd.R_form HO_3.out (by omega)
                                        (first | cases eo30 | (injection eo30 with ea_ en_ ec_; (first | subst ea_ | (injection ea_ with ea_; subst ea_)); subst ec_; clear en_))
                                        have GB30 := Aside0.mk gb30
                                        have GG30 := Aside0.mk HG30
                                        clear gb30 gl30 HG30
                                        (first | simp only [add_plain] at hx128_0 | skip)
                                        (first | simp only [add_plain] at hx130_0 | skip)
                                        obtain ⟨hx30_0, hf30_0⟩ := Kd.R_celln false HO_3.out ((ji27) : Int) p30 q30
                                        replace p30 := eq_true p30
                                        replace q30 := eq_true q30
                                        have HP32 := Kd.R_putg HO_3.out ((ji27) : Int) (!(rdOf false x3_4 (ji27)))
                                        go_wp2_with (first | ((with_reducible refine gate_store (t := 4) (p := 81) rfl ?_); refine store_event (t := 4) (p := 81) (v := ?vo_w33) (w1 := (wr.setCell ⟨go30, ((ji27) : Int).toNat, none⟩ (.bool (!(rdOf false x3_4 (ji27)))))) ?hg ?ho ?hn ?hr ?_; (case ho => rfl); (case hg => rfl); (case hn => rfl); (case hr => first | (go_simp; done) | (go_simp; rfl)); intro w33 hw; have hg : wr.grownBy w33 (some go30) := (by rw [hw]; exact HP32.2); have hp_ : Kd.R Kd.bool 4 w33 w.heap.size (fun _ => True) (.slice (some ⟨go30, 0, none⟩) x3_4.length co24) y131 := (by rw [hw, Ny131.out]; exact HP32.1); clear HP32; have n0_ := Aside0.mk (hp_); have n1_ := Aside0.mk (Kd.R_over' (v := (.slice (some ⟨go30, 0, none⟩) x3_4.length co24)) (by (with_reducible repeat (first | apply Kd.R_alloc | apply Kd.R_drewN | apply Kd.R_drew)); exact HO_8.out) (Kd.R_typed HO_3.out) (by decide) hg); have n2_ := Aside0.mk ((by rw [hw]; exact below_set (HB.out) GB30.out : Below w.heap.size w w33)); clear HO_3; clear HO_8; clear HB; have HO_3 := n0_; have HO_8 := n1_; have HB := n2_; clear n0_ n1_ n2_; clear hg hw hp_))
                                        (try simp only [← hl3_4])
                                        go_roundg k4
                                        case measure => have := HK1.out; have := HK2.out; have := HK3.out; have := HK4.out; omega
                                        case rel => exact ⟨(y131), (wrap64 (x10_4 + 1)), (by first | rfl | (simp; done) | (simp; omega) | (simp [*]; done)), H', ⟨by have := HK1.out; have := HK2.out; have := HK3.out; have := HK4.out; omega⟩, ⟨by (try simp only [hl3_4]); (with_reducible repeat (first | apply Kd.R_alloc | apply Kd.R_drewN | apply Kd.R_drew)); exact HO_3.out⟩, ⟨by (try simp only [hl3_4]); (with_reducible repeat (first | apply Kd.R_alloc | apply Kd.R_drewN | apply Kd.R_drew)); exact HO_8.out⟩, ⟨by repeat (first | (with_reducible first | exact HB.out | apply below_alloc | apply pw_below_drewN | apply below_drew1) | exact HB.out)⟩⟩
                                      · rw [if_neg c29] at H
                                        exact absurd H (by simp)
                                    · rw [if_neg c28] at H
                                      exact absurd H (by simp)
                                  · rw [if_neg c26] at H
                                    exact absurd H (by simp)
                                · rw [if_neg c25] at H
                                  have c25b0 : decide (x10_4 < (t125.length : Int)) = false := decide_eq_false c25
                                  clear c25
                                  have H' := Aside0.mk H
                                  clear H
                                  obtain ⟨Ao34, co34, eo34⟩ := Kd.R_slice HO_8.out
                                  subst eo34
                                  go_wp2
                                  (try simp only [← hl3_4])
                                  go_roundg k4
                                  case measure => have := HK1.out; have := HK2.out; have := HK3.out; have := HK4.out; omega
                                  case rel => exact ⟨(x3_4), (wrap64 (x9_3 + 1)), (by first | rfl | (simp; done) | (simp; omega) | (simp [*]; done)), H', ⟨by have := HK1.out; have := HK2.out; have := HK3.out; have := HK4.out; omega⟩, ⟨by (try simp only [hl3_4]); (with_reducible repeat (first | apply Kd.R_alloc | apply Kd.R_drewN | apply Kd.R_drew)); exact HO_3.out⟩, ⟨by (try simp only [hl3_4]); (with_reducible repeat (first | apply Kd.R_alloc | apply Kd.R_drewN | apply Kd.R_drew)); exact HO_8.out⟩, ⟨by repeat (first | (with_reducible first | exact HB.out | apply below_alloc | apply pw_below_drewN | apply below_drew1) | exact HB.out)⟩⟩
                          · replace c23 := Bool.eq_false_iff.mpr c23
                            subst c23
                            have H1 : (knapsackref03_Sum.l3 k3 x3_3 t125 (wrap64 (x9_3 + 1))) = some r := by rw [if_neg (show ¬ (false = true) by decide)] at H; exact H
                            clear H
                            have H := H1
                            clear H1
                            have H' := Aside0.mk H
                            clear H
                            obtain ⟨Ao35, co35, eo35⟩ := Kd.R_slice HO_3.out
                            subst eo35
                            have p128 : 0 ≤ (x9_3 : Int) := of_decide_eq_true (by first | (with_reducible assumption) | assumption)
                            have q128 : x9_3 < (x3_3.length : Int) := of_decide_eq_true (by first | (with_reducible assumption) | assumption)
                            obtain ⟨ad128, e128, hx128_0⟩ := Kd.at_bool (Kd.R_reads' HO_3.out).2.2 x9_3 p128 q128
                            (try rw [← Nbq22.out] at hx128_0)
                            cases e128
                            replace p128 := eq_true p128
                            replace q128 := eq_true q128
                            go_wp2
                            go_roundg k3
                            case measure => have := HK1.out; have := HK2.out; have := HK3.out; omega
                            case rel => exact ⟨(x3_3), (wrap64 (x9_3 + 1)), (by first | rfl | (simp; done) | (simp; omega) | (simp [*]; done)), H', ⟨by have := HK1.out; have := HK2.out; have := HK3.out; omega⟩, ⟨by (with_reducible repeat (first | apply Kd.R_alloc | apply Kd.R_drewN | apply Kd.R_drew)); exact HO_3.out⟩, ⟨by (with_reducible repeat (first | apply Kd.R_alloc | apply Kd.R_drewN | apply Kd.R_drew)); exact HO_8.out⟩, ⟨by repeat (first | (with_reducible first | exact HB.out | apply below_alloc | apply pw_below_drewN | apply below_drew1) | exact HB.out)⟩⟩
                        · rw [if_neg c21] at H
                          exact absurd H (by simp)
                      · rw [if_neg c20] at H
                        exact absurd H (by simp)
                    · rw [if_neg c19] at H
                      have c19b0 : decide ((wrap64 (x9_3 + 32)) < (x3_3.length : Int)) = false := decide_eq_false c19
                      clear c19
                      have H' := Aside0.mk H
                      clear H
                      obtain ⟨Ao36, co36, eo36⟩ := Kd.R_slice HO_3.out
                      subst eo36
                      go_wp2
                      (try simp only [add_plain])
                      go_loopg [12, 13] k3 (fun kq v12 v13 w' => ∃ (x12_4 : Int) (x13_4 : Int), v12 = .int .u32 x12_4 ∧ v13 = .int .i64 x13_4 ∧ Aside0 (knapsackref03_Sum.l5 kq x3_3 x12_4 x13_4 = some r) ∧ Aside0 (kq ≤ k3) ∧ Aside0 (Kd.R Kd.bool 4 w' w.heap.size (fun _ => True) (.slice Ao36 x3_3.length co36) x3_3) ∧ Aside0 (Below w.heap.size w w'))
                      case atStart => exact ⟨(0), (0), (by first | rfl | (simp; done) | (simp; omega) | (simp [*]; done)), (by first | rfl | (simp; done) | (simp; omega) | (simp [*]; done)), H', ⟨Nat.le_refl _⟩, ⟨by (with_reducible repeat (first | apply Kd.R_alloc | apply Kd.R_drewN | apply Kd.R_drew)); exact HO_3.out⟩, ⟨by repeat (first | (with_reducible first | exact HB.out | apply below_alloc | apply pw_below_drewN | apply below_drew1) | exact HB.out)⟩⟩
                      case round =>
                        clear H'
                        try clear c1
                        try clear p1
                        try clear q1
                        try clear hx1
                        try clear hf1
                        try clear c2
                        try clear c2b0
                        try clear p2
                        try clear q2
                        try clear c3
                        try clear c3b0
                        try clear p3
                        try clear q3
                        try clear hx3
                        try clear hf3
                        try clear c4
                        try clear p4
                        try clear q4
                        try clear hx4
                        try clear c5
                        try clear c5b0
                        try clear c6
                        try clear p6
                        try clear c8
                        try clear c10
                        try clear c10b0
                        try clear c11
                        try clear c11b0
                        try clear c12
                        try clear c12b0
                        try clear p12
                        try clear q12
                        try clear hx12
                        try clear p13
                        try clear q13
                        try clear hx13
                        try clear hf13
                        try clear c16
                        try clear c19
                        try clear c19b0
                        try clear c20
                        try clear c20b0
                        try clear c21
                        try clear c21b0
                        try clear q22
                        try clear c23
                        try clear c25
                        try clear c25b0
                        try clear c26
                        try clear c26b0
                        try clear c28
                        try clear c28b0
                        try clear c29
                        try clear c29b0
                        try clear p30
                        try clear q30
                        try clear hx30
                        try clear hf30
                        try clear hx123_0
                        try clear hx128_0
                        try clear hx129_0
                        try clear hx130_0
                        try clear hx13_0
                        try clear hx30_0
                        try clear p1
                        try clear p12
                        try clear p123
                        try clear p128
                        try clear p129
                        try clear p13
                        try clear p130
                        try clear p2
                        try clear p30
                        try clear p4
                        try clear p6
                        try clear q1
                        try clear q12
                        try clear q123
                        try clear q128
                        try clear q129
                        try clear q13
                        try clear q130
                        try clear q2
                        try clear q22
                        try clear q30
                        try clear q4
                        obtain ⟨x12_4, x13_4, rfl, rfl, HA, HK4, HO_3, HB⟩ := hrel
                        cases gk with
                        | zero => exact absurd HA.out (by simp [knapsackref03_Sum.l5])
                        | succ k4 =>
                          have H := HA.out
                          clear HA
                          simp only [knapsackref03_Sum.l5] at H
                          by_cases c37 : x13_4 < 32
                          · rw [if_pos c37] at H
                            have c37b0 : decide (x13_4 < 32) = true := decide_eq_true c37
                            clear c37
                            obtain ⟨ji38, hji38⟩ : ∃ j_ : Int, (wrap64 ((wrap64 ((x3_3.length : Int) - 1)) - x13_4)) = j_ := ⟨_, rfl⟩
                            replace H : (if 0 ≤ (ji38) then (if (ji38) < (x3_3.length : Int) then (if (rdOf false x3_3 (ji38) = true) then (knapsackref03_Sum.l5 k4 x3_3 ((2 * x12_4) % 4294967296) (wrap64 (x13_4 + 1))) else (knapsackref03_Sum.l5 k4 x3_3 ((((2 * x12_4) % 4294967296) + 1) % 4294967296) (wrap64 (x13_4 + 1)))) else (none)) else (none)) = some r := by first | (rw [hji38] at H; exact H) | (simp only [hji38] at H ⊢; exact H)
                            have hji38w : (IntKind.i64.wrap ((wrap64 ((x3_3.length : Int) - 1)) - x13_4)) = ji38 := (i64_w _).trans hji38
                            by_cases c39 : 0 ≤ (ji38)
                            · rw [if_pos c39] at H
                              have c39b0 : decide (0 ≤ (ji38)) = true := decide_eq_true c39
                              clear c39
                              by_cases c40 : (ji38) < (x3_3.length : Int)
                              · rw [if_pos c40] at H
                                have c40b0 : decide ((ji38) < (x3_3.length : Int)) = true := decide_eq_true c40
                                clear c40
                                obtain ⟨bq41, hbq41⟩ : ∃ b_ : Bool, b_ = (rdOf false x3_3 (ji38)) := ⟨_, rfl⟩
                                replace H : (if (bq41 = true) then (knapsackref03_Sum.l5 k4 x3_3 ((2 * x12_4) % 4294967296) (wrap64 (x13_4 + 1))) else (knapsackref03_Sum.l5 k4 x3_3 ((((2 * x12_4) % 4294967296) + 1) % 4294967296) (wrap64 (x13_4 + 1)))) = some r := by rw [← hbq41] at H; exact H
                                have Nbq41 := Aside0.mk hbq41
                                clear hbq41
                                by_cases c42 : (bq41 = true)
                                · subst c42
                                  have H1 : (knapsackref03_Sum.l5 k4 x3_3 ((2 * x12_4) % 4294967296) (wrap64 (x13_4 + 1))) = some r := by rw [if_pos rfl] at H; exact H
                                  clear H
                                  have H := H1
                                  clear H1
                                  have H' := Aside0.mk H
                                  clear H
                                  have p132 : 0 ≤ ((ji38) : Int) := of_decide_eq_true (by first | (with_reducible assumption) | assumption)
                                  have q132 : (ji38) < (x3_3.length : Int) := of_decide_eq_true (by first | (with_reducible assumption) | assumption)
                                  obtain ⟨ad132, e132, hx132_0⟩ := Kd.at_bool (Kd.R_reads' HO_3.out).2.2 (ji38) p132 q132
                                  (try rw [← Nbq41.out] at hx132_0)
                                  cases e132
                                  replace p132 := eq_true p132
                                  replace q132 := eq_true q132
                                  go_wp2
                                  go_roundg k4
                                  case measure => have := HK1.out; have := HK2.out; have := HK3.out; have := HK4.out; omega
                                  case rel => exact ⟨((2 * x12_4) % 4294967296), (wrap64 (x13_4 + 1)), (by first | rfl | (simp; done) | (simp; omega) | (simp [*]; done)), (by first | rfl | (simp; done) | (simp; omega) | (simp [*]; done)), H', ⟨by have := HK1.out; have := HK2.out; have := HK3.out; have := HK4.out; omega⟩, ⟨by (with_reducible repeat (first | apply Kd.R_alloc | apply Kd.R_drewN | apply Kd.R_drew)); exact HO_3.out⟩, ⟨by repeat (first | (with_reducible first | exact HB.out | apply below_alloc | apply pw_below_drewN | apply below_drew1) | exact HB.out)⟩⟩
                                · replace c42 := Bool.eq_false_iff.mpr c42
                                  subst c42
                                  have H1 : (knapsackref03_Sum.l5 k4 x3_3 ((((2 * x12_4) % 4294967296) + 1) % 4294967296) (wrap64 (x13_4 + 1))) = some r := by rw [if_neg (show ¬ (false = true) by decide)] at H; exact H
                                  clear H
                                  have H := H1
                                  clear H1
                                  have H' := Aside0.mk H
                                  clear H
                                  have p132 : 0 ≤ ((ji38) : Int) := of_decide_eq_true (by first | (with_reducible assumption) | assumption)
                                  have q132 : (ji38) < (x3_3.length : Int) := of_decide_eq_true (by first | (with_reducible assumption) | assumption)
                                  obtain ⟨ad132, e132, hx132_0⟩ := Kd.at_bool (Kd.R_reads' HO_3.out).2.2 (ji38) p132 q132
                                  (try rw [← Nbq41.out] at hx132_0)
                                  cases e132
                                  replace p132 := eq_true p132
                                  replace q132 := eq_true q132
                                  go_wp2
                                  go_roundg k4
                                  case measure => have := HK1.out; have := HK2.out; have := HK3.out; have := HK4.out; omega
                                  case rel => exact ⟨((((2 * x12_4) % 4294967296) + 1) % 4294967296), (wrap64 (x13_4 + 1)), (by first | rfl | (simp; done) | (simp; omega) | (simp [*]; done)), (by first | rfl | (simp; done) | (simp; omega) | (simp [*]; done)), H', ⟨by have := HK1.out; have := HK2.out; have := HK3.out; have := HK4.out; omega⟩, ⟨by (with_reducible repeat (first | apply Kd.R_alloc | apply Kd.R_drewN | apply Kd.R_drew)); exact HO_3.out⟩, ⟨by repeat (first | (with_reducible first | exact HB.out | apply below_alloc | apply pw_below_drewN | apply below_drew1) | exact HB.out)⟩⟩
                              · rw [if_neg c40] at H
                                exact absurd H (by simp)
                            · rw [if_neg c39] at H
                              exact absurd H (by simp)
                          · rw [if_neg c37] at H
                            have c37b0 : decide (x13_4 < 32) = false := decide_eq_false c37
                            clear c37
                            obtain rfl := Option.some.inj H
                            go_wp2
                            go_ret
                            exact ⟨by first | rfl | (simp [errW_none, errW_some] <;> rfl) | (simp [*, errW_none, errW_some] <;> rfl), by repeat (first | (with_reducible first | exact HB.out | apply below_alloc | apply pw_below_drewN | apply below_drew1) | exact HB.out)⟩
        · rw [if_neg c8] at H
          exact absurd H (by simp)

/-! ### knapsackref03_Seal: function 18 -/
def knapsackref03_Seal.f (k : Nat) (a0 : ByteArray) : Option (ByteArray) := (knapsackref03_Sum.f k a0).bind fun t133 => ((some (([(Int.tmod t133 256) % 256, ((Int.tdiv t133 256) % 4294967296) % 256, ((Int.tdiv t133 65536) % 4294967296) % 256, ((Int.tdiv t133 16777216) % 4294967296) % 256] : List Int) : List Int)).bind fun y134 => (if a0.size + (strOfNums y134).size ≤ 9223372036854775807 then (some (a0 ++ (strOfNums y134))) else (none)))
theorem knapsackref03_Seal.mono : ∀ a0 k, LeO (knapsackref03_Seal.f k a0) (knapsackref03_Seal.f (k + 1) a0) := by
  intro a0 k
  unfold knapsackref03_Seal.f
  repeat' first
      | (with_reducible exact knapsackref03_Sum.mono _ _)
      | (with_reducible exact LeO.refl _)
      | (with_reducible exact LeO.none _)
      | (with_reducible refine LeO.ite ?_ ?_)
      | (with_reducible refine LeO.bind ?_ (fun _ => ?_))
      | exact knapsackref03_Sum.mono _ _
      | exact LeO.none _
      | refine LeO.ite ?_ ?_
      | refine LeO.bind ?_ (fun _ => ?_)
set_option maxHeartbeats 8000000 in
set_option maxRecDepth 100000 in
theorem knapsackref03_Seal.calls (k : Nat) (a0 : ByteArray) (r : ByteArray) (w : World) (h : knapsackref03_Seal.f k a0 = some r) :
    Calls Try.prog 18 #[.string a0] w fun e w' => e = .returned (.string r) ∧ Below w.heap.size w w' := by
  have HB := Aside0.mk (Below.refl w.heap.size w)
  have H : ((knapsackref03_Sum.f k a0).bind fun t133 => ((some (([(Int.tmod t133 256) % 256, ((Int.tdiv t133 256) % 4294967296) % 256, ((Int.tdiv t133 65536) % 4294967296) % 256, ((Int.tdiv t133 16777216) % 4294967296) % 256] : List Int) : List Int)).bind fun y134 => (if a0.size + (strOfNums y134).size ≤ 9223372036854775807 then (some (a0 ++ (strOfNums y134))) else (none)))) = some r := h
  clear h
  replace H := Option.bind_eq_some_iff.mp H
  obtain ⟨t133, A20, H⟩ := H
  replace H : ((some (([(Int.tmod t133 256) % 256, ((Int.tdiv t133 256) % 4294967296) % 256, ((Int.tdiv t133 65536) % 4294967296) % 256, ((Int.tdiv t133 16777216) % 4294967296) % 256] : List Int) : List Int)).bind fun y134 => (if a0.size + (strOfNums y134).size ≤ 9223372036854775807 then (some (a0 ++ (strOfNums y134))) else (none))) = some r := H
  have A2 := Aside0.mk A20
  clear A20
  obtain ⟨y134, hy134⟩ : ∃ y_ : List Int, y_ = (([(Int.tmod t133 256) % 256, ((Int.tdiv t133 256) % 4294967296) % 256, ((Int.tdiv t133 65536) % 4294967296) % 256, ((Int.tdiv t133 16777216) % 4294967296) % 256] : List Int)) := ⟨_, rfl⟩
  replace H : (if a0.size + (strOfNums y134).size ≤ 9223372036854775807 then (some (a0 ++ (strOfNums y134))) else (none)) = some r := by first | (rw [hy134]; with_reducible exact H) | (have H2_ := (Option.bind_some _ _).symm.trans H; rw [hy134]; with_reducible exact H2_) | (have H2_ := (Option.bind_some _ _).symm.trans H; with_reducible exact H2_) | with_reducible exact H | (rw [hy134]; exact H) | exact H
  have Ny134 := Aside0.mk hy134
  clear hy134
  by_cases c3 : a0.size + (strOfNums y134).size ≤ 9223372036854775807
  · rw [if_pos c3] at H
    have c3b1 : decide (a0.size + (strOfNums y134).size ≤ 9223372036854775807) = true := decide_eq_true c3
    try have c3b2 : (9223372036854775807 < a0.size + (strOfNums y134).size) = False := eq_false (Nat.not_lt.2 c3)
    clear c3
    obtain rfl := Option.some.inj H
    go_enter Try.func18, Try.ntmps18
    go_wp2_with (first | ((with_reducible refine gate_callee (f := 16) rfl ?_); refine goesL_ (some 5) rfl rfl Try.func16 (by kernel_rfl) rfl #[.string a0] rfl (by (try simp only [List.map_toArray, List.map_cons, List.map_nil]); first | done | rfl | (simp only [List.length_drop, List.length_take]; rfl)) ?_; (with_reducible refine (knapsackref03_Sum.calls k a0 t133 _ A2.out).mono ?_); rintro e w4 ⟨rfl, hb⟩; refine ⟨_, rfl, ?_⟩; have n0_ := Aside0.mk (below_step (by repeat (first | (with_reducible first | exact HB.out | apply below_alloc | apply pw_below_drewN | apply below_drew1) | exact HB.out)) hb); clear HB; have HB := n0_; clear n0_; (try clear hb); (try clear hb2); (try clear hk); (try clear hi)) | ((with_reducible refine gate_dst (N := 21) rfl ?_); refine Kd.R_lit (Kd.int .u8) _ 5 ?hg (N := 21) ?hd (xs := ([(Int.tmod t133 256) % 256, ((Int.tdiv t133 256) % 4294967296) % 256, ((Int.tdiv t133 65536) % 4294967296) % 256, ((Int.tdiv t133 16777216) % 4294967296) % 256] : List Int)) (inner := [.int .u8 ((Int.tmod t133 256) % 256), .int .u8 (((Int.tdiv t133 256) % 4294967296) % 256), .int .u8 (((Int.tdiv t133 65536) % 4294967296) % 256), .int .u8 (((Int.tdiv t133 16777216) % 4294967296) % 256)]) (ok := fun _ => True) (okp := fun _ => True) ?hr ?hp (fun _ hk => hk) trivial (Below.refl _ _) (Nat.le_refl _) (by simp) ?_; (case hd => rfl); (case hg => rfl); (case hr => first | (go_simp; done) | (go_simp; rfl)); (case hp => exact (Reps.one (show Kd.M (Kd.int .u8) _ _ _ ((Int.tmod t133 256) % 256) [.int .u8 ((Int.tmod t133 256) % 256)] from rfl) (Reps.one (show Kd.M (Kd.int .u8) _ _ _ (((Int.tdiv t133 256) % 4294967296) % 256) [.int .u8 (((Int.tdiv t133 256) % 4294967296) % 256)] from rfl) (Reps.one (show Kd.M (Kd.int .u8) _ _ _ (((Int.tdiv t133 65536) % 4294967296) % 256) [.int .u8 (((Int.tdiv t133 65536) % 4294967296) % 256)] from rfl) (Reps.one (show Kd.M (Kd.int .u8) _ _ _ (((Int.tdiv t133 16777216) % 4294967296) % 256) [.int .u8 (((Int.tdiv t133 16777216) % 4294967296) % 256)] from rfl) (Reps.none _ _)))))); intro v135 w5 ho6 hb hg_ hnew_; clear hg_ hnew_; (first | rw [← Ny134.out] at ho6 | (simp only [Int.reduceToNat] at ho6; rw [← Ny134.out] at ho6)); have n0_ := Aside0.mk (Kd.R_lower ho6 (below_size (by repeat (first | (with_reducible first | exact HB.out | apply below_alloc | apply pw_below_drewN | apply below_drew1) | exact HB.out)))); have n1_ := Aside0.mk (below_step (by repeat (first | (with_reducible first | exact HB.out | apply below_alloc | apply pw_below_drewN | apply below_drew1) | exact HB.out)) hb); clear HB; have HO136 := n0_; have HB := n1_; clear n0_ n1_; clear hb ho6; have hcv7 := own_string (P := Try.prog) Try.underlying32 Try.underlying5 Try.underlying9 (Kd.own_of_R HO136.out)))
    go_ret
    exact ⟨by first | rfl | (simp [errW_none, errW_some] <;> rfl) | (simp [*, errW_none, errW_some] <;> rfl), by repeat (first | (with_reducible first | exact HB.out | apply below_alloc | apply pw_below_drewN | apply below_drew1) | exact HB.out)⟩
  · rw [if_neg c3] at H
    exact absurd H (by simp)

end Go.Proofs.Ytnmnplbjhejejaa.PA
