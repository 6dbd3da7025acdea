-- Written by a turned copy of the printer (wip/patchprint.py of this repo), with contracts of this session beside; Lean checks it.
import Derived.Test.YtkhbapchkfmocaaPAx0
import Derived.Test.YtkhbapchkfmocaaPAx3
import Derived.Test.YtkhbapchkfmocaaPAx8
import Derived.Test.YtkhbapchkfmocaaPAx9
namespace Go.Proofs.Ytkhbapchkfmocaa.PA
open Go.RowKit Go.Proofs.YtkhbapchkfmocaaW.PrintWords Go.Proofs.YtkhbapchkfmocaaW.PrintLast Go.Proofs.YtkhbapchkfmocaaW.PrintMore
attribute [local go_sem] max2_int min2_int max_two min_two max_three min_three max_four min_four   -- for this text's walks alone
set_option linter.unusedVariables false
set_option linter.unusedSimpArgs false

/-! ### pkt_All: function 22 -/
def pkt_All.l0 : Nat → ByteArray → List (S34) → Option ((List (S34)) × Int)
  | 0, _, _ => none
  | k + 1, x0, x4 => if x0.toList = ([] : List UInt8) then (some (x4, 0)) else ((pkt_Get.f k x0).bind fun bt275 => (if bt275.2.2.2 = 0 then (if x4.length < 5864062014805 then (pkt_All.l0 k bt275.2.2.1 (x4 ++ [(⟨bt275.1, bt275.2.1⟩ : S34)])) else (none)) else (some (([] : List (S34)), bt275.2.2.2))))
def pkt_All.f (k : Nat) (a0 : ByteArray) : Option ((List (S34)) × Int) := pkt_All.l0 k a0 ([] : List (S34))
theorem pkt_All.mono_l : ∀ k, (∀ y0 y1, LeO (pkt_All.l0 k y0 y1) (pkt_All.l0 (k + 1) y0 y1))
  | 0 => fun _ _ r h => by simp [pkt_All.l0] at h
  | k + 1 => by
    have ih0 := pkt_All.mono_l k
    · intro y0 y1
      unfold pkt_All.l0
      repeat' first
      | (with_reducible exact ih0 _ _)
      | (with_reducible exact pkt_Get.mono _ _)
      | (with_reducible exact LeO.refl _)
      | (with_reducible exact LeO.none _)
      | (with_reducible refine LeO.ite ?_ ?_)
      | (with_reducible refine LeO.bind ?_ (fun _ => ?_))
      | exact ih0 _ _
      | exact pkt_Get.mono _ _
      | exact LeO.none _
      | refine LeO.ite ?_ ?_
      | refine LeO.bind ?_ (fun _ => ?_)
theorem pkt_All.mono : ∀ a0 k, LeO (pkt_All.f k a0) (pkt_All.f (k + 1) a0) := by
  intro a0 k
  have ih0 := pkt_All.mono_l k
  unfold pkt_All.f
  repeat' first
      | (with_reducible exact ih0 _ _)
      | (with_reducible exact pkt_Get.mono _ _)
      | (with_reducible exact LeO.refl _)
      | (with_reducible exact LeO.none _)
      | (with_reducible refine LeO.ite ?_ ?_)
      | (with_reducible refine LeO.bind ?_ (fun _ => ?_))
      | exact ih0 _ _
      | exact pkt_Get.mono _ _
      | exact LeO.none _
      | refine LeO.ite ?_ ?_
      | refine LeO.bind ?_ (fun _ => ?_)
set_option maxHeartbeats 8000000 in
set_option maxRecDepth 100000 in
theorem pkt_All.calls (k : Nat) (a0 : ByteArray) (r1 : List (S34)) (r2 : Int) (w : World) (h : pkt_All.f k a0 = some (r1, r2)) :
    Calls Try.prog 22 #[.string a0] w fun e w' => ∃ v0_ : Value, e = .returned (.tuple #[v0_, .int .i64 r2]) ∧ Kd.R k34 34 w' w.heap.size (fun _ => True) v0_ r1 ∧ Below w.heap.size w w' := by
  have hu34 := Try.underlying34
  have HB := Aside0.mk (Below.refl w.heap.size w)
  have H : (pkt_All.l0 k a0 ([] : List (S34))) = some (r1, r2) := h
  clear h
  have H' := Aside0.mk H
  clear H
  go_enter Try.func22, Try.ntmps22
  go_wp2
  go_loopg [0, 4] k (fun kq v0 v4 w' => ∃ (x0_1 : ByteArray) (x4_1 : List (S34)), v0 = .string x0_1 ∧ Aside0 (pkt_All.l0 kq x0_1 x4_1 = some (r1, r2)) ∧ Aside0 (kq ≤ k) ∧ Aside0 (Kd.R k34 34 w' w.heap.size (fun _ => True) v4 x4_1) ∧ Aside0 (Below w.heap.size w w'))
  case atStart => exact ⟨(a0), (([] : List (S34))), (by first | rfl | (simp; done) | (simp; omega) | (simp [*]; done)), H', ⟨Nat.le_refl _⟩, ⟨by first | exact Kd.R_nil _ _ _ _ _ | exact Kd.N_nil _ _ _ _ _ | exact Kd.V_nil _ _ _ _ _ | exact Kd.Q_nil _ _ _ _ _ | exact Kd.S_nil _ _ _ _ _⟩, ⟨by repeat (first | (with_reducible first | exact HB.out | apply below_alloc | apply pw_below_drewN | apply below_drew1) | exact HB.out)⟩⟩
  case round =>
    clear H'
    obtain ⟨x0_1, x4_1, rfl, HA, HK1, HO_4, HB⟩ := hrel
    cases gk with
    | zero => exact absurd HA.out (by simp [pkt_All.l0])
    | succ k1 =>
      have H := HA.out
      clear HA
      simp only [pkt_All.l0] at H
      by_cases c2 : x0_1.toList = ([] : List UInt8)
      · rw [if_pos c2] at H
        have c2b0 : (x0_1.toList == ([] : List UInt8)) = true := beq_iff_eq.mpr c2
        have c2b1 : (x0_1.toList != ([] : List UInt8)) = false := bne_eq_false_iff_eq.mpr c2
        clear c2
        simp only [Option.some.injEq, Prod.mk.injEq] at H
        obtain ⟨rfl, rfl⟩ := H
        go_wp2
        go_ret2
        exact ⟨_, by first | rfl | (simp [errW_none, errW_some] <;> rfl) | (simp [*, errW_none, errW_some] <;> rfl), by (with_reducible repeat (first | apply Kd.R_alloc | apply Kd.R_drewN | apply Kd.R_drew)); exact HO_4.out, by repeat (first | (with_reducible first | exact HB.out | apply below_alloc | apply pw_below_drewN | apply below_drew1) | exact HB.out)⟩
      · rw [if_neg c2] at H
        have c2b0 : (x0_1.toList == ([] : List UInt8)) = false := beq_eq_false_iff_ne.mpr c2
        have c2b1 : (x0_1.toList != ([] : List UInt8)) = true := bne_iff_ne.mpr c2
        replace H := Option.bind_eq_some_iff.mp H
        obtain ⟨⟨t275, t276, t277, t278⟩, A30, H⟩ := H
        replace H : (if t278 = 0 then (if x4_1.length < 5864062014805 then (pkt_All.l0 k1 t277 (x4_1 ++ [(⟨t275, t276⟩ : S34)])) else (none)) else (some (([] : List (S34)), t278))) = some (r1, r2) := H
        have A3 := Aside0.mk A30
        clear A30
        by_cases c4 : t278 = 0
        · rw [if_pos c4] at H
          have c4b0 : (t278 == 0) = true := beq_iff_eq.mpr c4
          have c4b1 : (t278 != 0) = false := bne_eq_false_iff_eq.mpr c4
          clear c4
          by_cases c5 : x4_1.length < 5864062014805
          · rw [if_pos c5] at H
            have LMc5 := Aside0.mk c5
            clear c5
            obtain ⟨y280, hy280⟩ : ∃ y_ : List (S34), y_ = (x4_1 ++ [(⟨t275, t276⟩ : S34)]) := ⟨_, rfl⟩
            replace H : (pkt_All.l0 k1 t277 y280) = some (r1, r2) := by first | (rw [hy280]; with_reducible exact H) | (have H2_ := (Option.bind_some _ _).symm.trans H; rw [hy280]; with_reducible exact H2_) | (have H2_ := (Option.bind_some _ _).symm.trans H; with_reducible exact H2_) | with_reducible exact H | (rw [hy280]; exact H) | exact H
            have Ny280 := Aside0.mk hy280
            clear hy280
            have H' := Aside0.mk H
            clear H
            go_wp2_with (first | ((with_reducible refine gate_callee (f := 20) rfl ?_); refine goesL_ (some 12) rfl rfl Try.func20 (by kernel_rfl) rfl #[.string x0_1] rfl (by (try simp only [List.map_toArray, List.map_cons, List.map_nil]); first | done | rfl | (simp only [List.length_drop, List.length_take]; rfl)) ?_; (with_reducible refine (pkt_Get.calls k1 x0_1 t275 t276 t277 t278 _ A3.out).mono ?_); rintro e w6 ⟨rfl, hb⟩; refine ⟨_, rfl, ?_⟩; have n0_ := Aside0.mk (Kd.R_below (by (with_reducible repeat (first | apply Kd.R_alloc | apply Kd.R_drewN | apply Kd.R_drew)); exact HO_4.out) hb); have n1_ := Aside0.mk (below_step (by repeat (first | (with_reducible first | exact HB.out | apply below_alloc | apply pw_below_drewN | apply below_drew1) | exact HB.out)) hb); clear HO_4; clear HB; have HO_4 := n0_; have HB := n1_; clear n0_ n1_; (try clear hb); (try clear hb2); (try clear hk); (try clear hi)) | ((with_reducible refine gate_dst (N := 5) rfl ?_); refine box_event ?hg (N := 5) ?hd (cs := #[.int .i64 0, .string (⟨#[]⟩ : ByteArray)]) (t := 34) ?hr ?_; (case hd => rfl); (case hg => rfl); (case hr => first | (go_simp; done) | (go_simp; rfl)); intro gb279 hg w7 hbox hb; have n0_ := Aside0.mk (Kd.R_below (Kd.R_elderB (by (with_reducible repeat (first | apply Kd.R_alloc | apply Kd.R_drewN | apply Kd.R_drew)); exact HO_4.out) gb279 (Nat.le_of_eq hg.symm)) hb); have n1_ := Aside0.mk (below_step (by repeat (first | (with_reducible first | exact HB.out | apply below_alloc | apply pw_below_drewN | apply below_drew1) | exact HB.out)) hb); have n2_ := Aside0.mk (hbox); have n3_ := Aside0.mk ((by rw [hg]; exact (below_size (by repeat (first | (with_reducible first | exact HB.out | apply below_alloc | apply pw_below_drewN | apply below_drew1) | exact HB.out))) : w.heap.size ≤ gb279)); have n4_ := Aside0.mk ((by rw [hg]; exact (below_size (by repeat (first | (with_reducible first | exact HB.out | apply below_alloc | apply pw_below_drewN | apply below_drew1) | exact HB.out))) : w.heap.size ≤ gb279)); clear HO_4; clear HB; have HO_4 := n0_; have HB := n1_; have BK279 := n2_; have GW279 := n3_; have GE279 := n4_; clear n0_ n1_ n2_ n3_ n4_; clear hb hbox hg; have hcz8_0 : w7.cell? ⟨gb279, 0, none⟩ = some (.int .i64 0) := (blk_cell BK279.out 0).trans rfl; have hcz8_1 : w7.cell? ⟨gb279, 1, none⟩ = some (.string (⟨#[]⟩ : ByteArray)) := (blk_cell BK279.out 1).trans rfl; have hfz8_0 := blk_frozen BK279.out 0; have hfz8_1 := blk_frozen BK279.out 1) | ((with_reducible refine gate_builtin (b := .append) (xs := #[.tmp 19, .tmp 21]) rfl ?_); at_builtin; refine Kd.R_append k34 (w0 := w) w.heap.size rfl (.tmp 19) (.tmp 21) 23 34 (.agg #[(.int .i64 0), (.string ⟨#[]⟩)]) 24 rfl Try.underlying23 info34 rfl (by decide) (by omega) u4 x4_1 (⟨t275, t276⟩ : S34) [.int .i64 t275, .string t276] (fun k_ => k_ ≠ gb279) (fun _ => False) rfl (by first | (go_simp; done) | (go_simp; rfl)) ?aP (fun _ hk => hk.elim) ?aF ?aO ?aB ?aS ?aL ?_; (case aP => exact k34_mkM _ _ _ (⟨t275, t276⟩ : S34)); (case aB => exact (by repeat (first | (with_reducible first | exact HB.out | apply below_alloc | apply pw_below_drewN | apply below_drew1 | refine below_set ?_ GE279.out) | exact HB.out))); (case aF => exact (fun k_ hk => Kd.freshB (g := gb279) (o := .cells #[.int .i64 t275, .string t276] 34 (0, 0)) (by (with_reducible repeat (first | refine blk_drewN ?_ _ | refine blk_drew ?_ | refine blk_alloc ?_ _)); refine blk_put (cs := #[.int .i64 t275, .string (⟨#[]⟩ : ByteArray)]) ?_ 1 _ rfl; (with_reducible repeat (first | refine blk_drewN ?_ _ | refine blk_drew ?_ | refine blk_alloc ?_ _)); refine blk_put (cs := #[.int .i64 0, .string (⟨#[]⟩ : ByteArray)]) ?_ 0 _ rfl; (with_reducible repeat (first | refine blk_drewN ?_ _ | refine blk_drew ?_ | refine blk_alloc ?_ _)); exact BK279.out) k_ hk)); (case aO => exact (by (with_reducible repeat (first | apply Kd.R_alloc | apply Kd.R_drewN | apply Kd.R_drew)); exact Kd.R_mono (Kd.R_far (p := ⟨gb279, 1, none⟩) (Kd.R_far (p := ⟨gb279, 0, none⟩) (Kd.R_mono HO_4.out (fun k_ hk => (⟨hk, hk.2⟩ : _ ∧ k_ ≠ gb279))) (fun _ hk => hk.2) (.int .i64 t275)) (fun _ hk => hk.2) (.string t276)) (fun _ hk => hk.1.2))); (case aS => exact (below_size (by repeat (first | (with_reducible first | exact HB.out | apply below_alloc | apply pw_below_drewN | apply below_drew1 | refine below_set ?_ GE279.out) | exact HB.out)))); (case aL => have := LMc5.out; omega); intro v281 w9 ho hb hg hat; (first | rw [← Ny280.out] at ho | ((simp only [Int.reduceToNat] at ho); rw [← Ny280.out] at ho)); have n0_ := Aside0.mk (blk_grown (g := gb279) (o := .cells #[.int .i64 t275, .string t276] 34 (0, 0)) (by (with_reducible repeat (first | refine blk_drewN ?_ _ | refine blk_drew ?_ | refine blk_alloc ?_ _)); refine blk_put (cs := #[.int .i64 t275, .string (⟨#[]⟩ : ByteArray)]) ?_ 1 _ rfl; (with_reducible repeat (first | refine blk_drewN ?_ _ | refine blk_drew ?_ | refine blk_alloc ?_ _)); refine blk_put (cs := #[.int .i64 0, .string (⟨#[]⟩ : ByteArray)]) ?_ 0 _ rfl; (with_reducible repeat (first | refine blk_drewN ?_ _ | refine blk_drew ?_ | refine blk_alloc ?_ _)); exact BK279.out) hg (Kd.R_away HO_4.out (fun _ hk => hk.2))); have n1_ := Aside0.mk (hb); have n2_ := Aside0.mk (ho); clear BK279; clear HB; clear HO_4; have BK279 := n0_; have HB := n1_; have HO282 := n2_; clear n0_ n1_ n2_; clear ho hb hg hat))
            go_roundg k1
            case measure => have := HK1.out; omega
            case rel => exact ⟨(t277), (y280), (by first | rfl | (simp; done) | (simp; omega) | (simp [*]; done)), H', ⟨by have := HK1.out; omega⟩, ⟨by (with_reducible repeat (first | apply Kd.R_alloc | apply Kd.R_drewN | apply Kd.R_drew)); exact Kd.R_mono HO282.out (fun _ hk => trivial)⟩, ⟨by repeat (first | (with_reducible first | exact HB.out | apply below_alloc | apply pw_below_drewN | apply below_drew1 | refine below_set ?_ GE279.out) | exact HB.out)⟩⟩
          · rw [if_neg c5] at H
            exact absurd H (by simp)
        · rw [if_neg c4] at H
          have c4b0 : (t278 == 0) = false := beq_eq_false_iff_ne.mpr c4
          have c4b1 : (t278 != 0) = true := bne_iff_ne.mpr c4
          simp only [Option.some.injEq, Prod.mk.injEq] at H
          obtain ⟨rfl, rfl⟩ := H
          go_wp2_with (first | ((with_reducible refine gate_callee (f := 20) rfl ?_); refine goesL_ (some 12) rfl rfl Try.func20 (by kernel_rfl) rfl #[.string x0_1] rfl (by (try simp only [List.map_toArray, List.map_cons, List.map_nil]); first | done | rfl | (simp only [List.length_drop, List.length_take]; rfl)) ?_; (with_reducible refine (pkt_Get.calls k1 x0_1 t275 t276 t277 t278 _ A3.out).mono ?_); rintro e w10 ⟨rfl, hb⟩; refine ⟨_, rfl, ?_⟩; have n0_ := Aside0.mk (Kd.R_below (by (with_reducible repeat (first | apply Kd.R_alloc | apply Kd.R_drewN | apply Kd.R_drew)); exact HO_4.out) hb); have n1_ := Aside0.mk (below_step (by repeat (first | (with_reducible first | exact HB.out | apply below_alloc | apply pw_below_drewN | apply below_drew1) | exact HB.out)) hb); clear HO_4; clear HB; have HO_4 := n0_; have HB := n1_; clear n0_ n1_; (try clear hb); (try clear hb2); (try clear hk); (try clear hi)) | ((with_reducible refine gate_dst (N := 5) rfl ?_); refine box_event ?hg (N := 5) ?hd (cs := #[.int .i64 0, .string (⟨#[]⟩ : ByteArray)]) (t := 34) ?hr ?_; (case hd => rfl); (case hg => rfl); (case hr => first | (go_simp; done) | (go_simp; rfl)); intro gb279 hg w11 hbox hb; have n0_ := Aside0.mk (Kd.R_below (Kd.R_elderB (by (with_reducible repeat (first | apply Kd.R_alloc | apply Kd.R_drewN | apply Kd.R_drew)); exact HO_4.out) gb279 (Nat.le_of_eq hg.symm)) hb); have n1_ := Aside0.mk (below_step (by repeat (first | (with_reducible first | exact HB.out | apply below_alloc | apply pw_below_drewN | apply below_drew1) | exact HB.out)) hb); have n2_ := Aside0.mk (hbox); have n3_ := Aside0.mk ((by rw [hg]; exact (below_size (by repeat (first | (with_reducible first | exact HB.out | apply below_alloc | apply pw_below_drewN | apply below_drew1) | exact HB.out))) : w.heap.size ≤ gb279)); have n4_ := Aside0.mk ((by rw [hg]; exact (below_size (by repeat (first | (with_reducible first | exact HB.out | apply below_alloc | apply pw_below_drewN | apply below_drew1) | exact HB.out))) : w.heap.size ≤ gb279)); clear HO_4; clear HB; have HO_4 := n0_; have HB := n1_; have BK279 := n2_; have GW279 := n3_; have GE279 := n4_; clear n0_ n1_ n2_ n3_ n4_; clear hb hbox hg; have hcz12_0 : w11.cell? ⟨gb279, 0, none⟩ = some (.int .i64 0) := (blk_cell BK279.out 0).trans rfl; have hcz12_1 : w11.cell? ⟨gb279, 1, none⟩ = some (.string (⟨#[]⟩ : ByteArray)) := (blk_cell BK279.out 1).trans rfl; have hfz12_0 := blk_frozen BK279.out 0; have hfz12_1 := blk_frozen BK279.out 1))
          go_ret2
          exact ⟨_, by first | rfl | (simp [errW_none, errW_some] <;> rfl) | (simp [*, errW_none, errW_some] <;> rfl), by first | exact Kd.R_nil _ _ _ _ _ | exact Kd.N_nil _ _ _ _ _ | exact Kd.V_nil _ _ _ _ _ | exact Kd.Q_nil _ _ _ _ _ | exact Kd.S_nil _ _ _ _ _, by repeat (first | (with_reducible first | exact HB.out | apply below_alloc | apply pw_below_drewN | apply below_drew1 | refine below_set ?_ GE279.out) | exact HB.out)⟩

/-! ### knapsackref07_All: function 23 -/
def knapsackref07_All.l0 : Nat → ByteArray → List (S50) → Option ((List (S50)) × Bool)
  | 0, _, _ => none
  | k + 1, x0, x4 => if x0.toList = ([] : List UInt8) then (some (x4, true)) else ((knapsackref07_Get.f k x0).bind fun bt283 => (if bt283.2.2 = 0 then (some (([] : List (S50)), false)) else (if x4.length < 5864062014805 then (if 0 ≤ bt283.2.2 then (if bt283.2.2 ≤ (x0.size : Int) then (knapsackref07_All.l0 k (x0.extract (bt283.2.2 : Int).toNat x0.size) (x4 ++ [(⟨bt283.1, bt283.2.1⟩ : S50)])) else (none)) else (none)) else (none))))
def knapsackref07_All.f (k : Nat) (a0 : ByteArray) : Option ((List (S50)) × Bool) := knapsackref07_All.l0 k a0 ([] : List (S50))
theorem knapsackref07_All.mono_l : ∀ k, (∀ y0 y1, LeO (knapsackref07_All.l0 k y0 y1) (knapsackref07_All.l0 (k + 1) y0 y1))
  | 0 => fun _ _ r h => by simp [knapsackref07_All.l0] at h
  | k + 1 => by
    have ih0 := knapsackref07_All.mono_l k
    · intro y0 y1
      unfold knapsackref07_All.l0
      repeat' first
      | (with_reducible exact ih0 _ _)
      | (with_reducible exact knapsackref07_Get.mono _ _)
      | (with_reducible exact LeO.refl _)
      | (with_reducible exact LeO.none _)
      | (with_reducible refine LeO.ite ?_ ?_)
      | (with_reducible refine LeO.bind ?_ (fun _ => ?_))
      | exact ih0 _ _
      | exact knapsackref07_Get.mono _ _
      | exact LeO.none _
      | refine LeO.ite ?_ ?_
      | refine LeO.bind ?_ (fun _ => ?_)
theorem knapsackref07_All.mono : ∀ a0 k, LeO (knapsackref07_All.f k a0) (knapsackref07_All.f (k + 1) a0) := by
  intro a0 k
  have ih0 := knapsackref07_All.mono_l k
  unfold knapsackref07_All.f
  repeat' first
      | (with_reducible exact ih0 _ _)
      | (with_reducible exact knapsackref07_Get.mono _ _)
      | (with_reducible exact LeO.refl _)
      | (with_reducible exact LeO.none _)
      | (with_reducible refine LeO.ite ?_ ?_)
      | (with_reducible refine LeO.bind ?_ (fun _ => ?_))
      | exact ih0 _ _
      | exact knapsackref07_Get.mono _ _
      | exact LeO.none _
      | refine LeO.ite ?_ ?_
      | refine LeO.bind ?_ (fun _ => ?_)
set_option maxHeartbeats 8000000 in
set_option maxRecDepth 100000 in
theorem knapsackref07_All.calls (k : Nat) (a0 : ByteArray) (r1 : List (S50)) (r2 : Bool) (w : World) (h : knapsackref07_All.f k a0 = some (r1, r2)) :
    Calls Try.prog 23 #[.string a0] w fun e w' => ∃ v0_ : Value, e = .returned (.tuple #[v0_, .bool r2]) ∧ Kd.R k50 50 w' w.heap.size (fun _ => True) v0_ r1 ∧ Below w.heap.size w w' := by
  have hu50 := Try.underlying50
  have HB := Aside0.mk (Below.refl w.heap.size w)
  have H : (knapsackref07_All.l0 k a0 ([] : List (S50))) = some (r1, r2) := h
  clear h
  have H' := Aside0.mk H
  clear H
  go_enter Try.func23, Try.ntmps23
  go_wp2
  go_loopg [0, 4] k (fun kq v0 v4 w' => ∃ (x0_1 : ByteArray) (x4_1 : List (S50)), v0 = .string x0_1 ∧ Aside0 (knapsackref07_All.l0 kq x0_1 x4_1 = some (r1, r2)) ∧ Aside0 (kq ≤ k) ∧ Aside0 (Kd.R k50 50 w' w.heap.size (fun _ => True) v4 x4_1) ∧ Aside0 (Below w.heap.size w w'))
  case atStart => exact ⟨(a0), (([] : List (S50))), (by first | rfl | (simp; done) | (simp; omega) | (simp [*]; done)), H', ⟨Nat.le_refl _⟩, ⟨by first | exact Kd.R_nil _ _ _ _ _ | exact Kd.N_nil _ _ _ _ _ | exact Kd.V_nil _ _ _ _ _ | exact Kd.Q_nil _ _ _ _ _ | exact Kd.S_nil _ _ _ _ _⟩, ⟨by repeat (first | (with_reducible first | exact HB.out | apply below_alloc | apply pw_below_drewN | apply below_drew1) | exact HB.out)⟩⟩
  case round =>
    clear H'
    obtain ⟨x0_1, x4_1, rfl, HA, HK1, HO_4, HB⟩ := hrel
    cases gk with
    | zero => exact absurd HA.out (by simp [knapsackref07_All.l0])
    | succ k1 =>
      have H := HA.out
      clear HA
      simp only [knapsackref07_All.l0] at H
      by_cases c2 : x0_1.toList = ([] : List UInt8)
      · rw [if_pos c2] at H
        have c2b0 : (x0_1.toList == ([] : List UInt8)) = true := beq_iff_eq.mpr c2
        have c2b1 : (x0_1.toList != ([] : List UInt8)) = false := bne_eq_false_iff_eq.mpr c2
        clear c2
        simp only [Option.some.injEq, Prod.mk.injEq] at H
        obtain ⟨rfl, rfl⟩ := H
        go_wp2
        go_ret2
        exact ⟨_, by first | rfl | (simp [errW_none, errW_some] <;> rfl) | (simp [*, errW_none, errW_some] <;> rfl), by (with_reducible repeat (first | apply Kd.R_alloc | apply Kd.R_drewN | apply Kd.R_drew)); exact HO_4.out, by repeat (first | (with_reducible first | exact HB.out | apply below_alloc | apply pw_below_drewN | apply below_drew1) | exact HB.out)⟩
      · rw [if_neg c2] at H
        have c2b0 : (x0_1.toList == ([] : List UInt8)) = false := beq_eq_false_iff_ne.mpr c2
        have c2b1 : (x0_1.toList != ([] : List UInt8)) = true := bne_iff_ne.mpr c2
        replace H := Option.bind_eq_some_iff.mp H
        obtain ⟨⟨t283, t284, t285⟩, A30, H⟩ := H
        replace H : (if t285 = 0 then (some (([] : List (S50)), false)) else (if x4_1.length < 5864062014805 then (if 0 ≤ t285 then (if t285 ≤ (x0_1.size : Int) then (knapsackref07_All.l0 k1 (x0_1.extract (t285 : Int).toNat x0_1.size) (x4_1 ++ [(⟨t283, t284⟩ : S50)])) else (none)) else (none)) else (none))) = some (r1, r2) := H
        have A3 := Aside0.mk A30
        clear A30
        by_cases c4 : t285 = 0
        · rw [if_pos c4] at H
          have c4b0 : (t285 == 0) = true := beq_iff_eq.mpr c4
          have c4b1 : (t285 != 0) = false := bne_eq_false_iff_eq.mpr c4
          clear c4
          simp only [Option.some.injEq, Prod.mk.injEq] at H
          obtain ⟨rfl, rfl⟩ := H
          go_wp2_with (first | ((with_reducible refine gate_callee (f := 21) rfl ?_); refine goesL_ (some 11) rfl rfl Try.func21 (by kernel_rfl) rfl #[.string x0_1] rfl (by (try simp only [List.map_toArray, List.map_cons, List.map_nil]); first | done | rfl | (simp only [List.length_drop, List.length_take]; rfl)) ?_; (with_reducible refine (knapsackref07_Get.calls k1 x0_1 t283 t284 t285 _ A3.out).mono ?_); rintro e w5 ⟨rfl, hb⟩; refine ⟨_, rfl, ?_⟩; have n0_ := Aside0.mk (Kd.R_below (by (with_reducible repeat (first | apply Kd.R_alloc | apply Kd.R_drewN | apply Kd.R_drew)); exact HO_4.out) hb); have n1_ := Aside0.mk (below_step (by repeat (first | (with_reducible first | exact HB.out | apply below_alloc | apply pw_below_drewN | apply below_drew1) | exact HB.out)) hb); clear HO_4; clear HB; have HO_4 := n0_; have HB := n1_; clear n0_ n1_; (try clear hb); (try clear hb2); (try clear hk); (try clear hi)) | ((with_reducible refine gate_dst (N := 5) rfl ?_); refine box_event ?hg (N := 5) ?hd (cs := #[.int .i64 0, .string (⟨#[]⟩ : ByteArray)]) (t := 50) ?hr ?_; (case hd => rfl); (case hg => rfl); (case hr => first | (go_simp; done) | (go_simp; rfl)); intro gb286 hg w6 hbox hb; have n0_ := Aside0.mk (Kd.R_below (Kd.R_elderB (by (with_reducible repeat (first | apply Kd.R_alloc | apply Kd.R_drewN | apply Kd.R_drew)); exact HO_4.out) gb286 (Nat.le_of_eq hg.symm)) hb); have n1_ := Aside0.mk (below_step (by repeat (first | (with_reducible first | exact HB.out | apply below_alloc | apply pw_below_drewN | apply below_drew1) | exact HB.out)) hb); have n2_ := Aside0.mk (hbox); have n3_ := Aside0.mk ((by rw [hg]; exact (below_size (by repeat (first | (with_reducible first | exact HB.out | apply below_alloc | apply pw_below_drewN | apply below_drew1) | exact HB.out))) : w.heap.size ≤ gb286)); have n4_ := Aside0.mk ((by rw [hg]; exact (below_size (by repeat (first | (with_reducible first | exact HB.out | apply below_alloc | apply pw_below_drewN | apply below_drew1) | exact HB.out))) : w.heap.size ≤ gb286)); clear HO_4; clear HB; have HO_4 := n0_; have HB := n1_; have BK286 := n2_; have GW286 := n3_; have GE286 := n4_; clear n0_ n1_ n2_ n3_ n4_; clear hb hbox hg; have hcz7_0 : w6.cell? ⟨gb286, 0, none⟩ = some (.int .i64 0) := (blk_cell BK286.out 0).trans rfl; have hcz7_1 : w6.cell? ⟨gb286, 1, none⟩ = some (.string (⟨#[]⟩ : ByteArray)) := (blk_cell BK286.out 1).trans rfl; have hfz7_0 := blk_frozen BK286.out 0; have hfz7_1 := blk_frozen BK286.out 1))
          go_ret2
          exact ⟨_, by first | rfl | (simp [errW_none, errW_some] <;> rfl) | (simp [*, errW_none, errW_some] <;> rfl), by first | exact Kd.R_nil _ _ _ _ _ | exact Kd.N_nil _ _ _ _ _ | exact Kd.V_nil _ _ _ _ _ | exact Kd.Q_nil _ _ _ _ _ | exact Kd.S_nil _ _ _ _ _, by repeat (first | (with_reducible first | exact HB.out | apply below_alloc | apply pw_below_drewN | apply below_drew1 | refine below_set ?_ GE286.out) | exact HB.out)⟩
        · rw [if_neg c4] at H
          have c4b0 : (t285 == 0) = false := beq_eq_false_iff_ne.mpr c4
          have c4b1 : (t285 != 0) = true := bne_iff_ne.mpr c4
          by_cases c8 : x4_1.length < 5864062014805
          · rw [if_pos c8] at H
            have LMc8 := Aside0.mk c8
            clear c8
            obtain ⟨y287, hy287⟩ : ∃ y_ : List (S50), y_ = (x4_1 ++ [(⟨t283, t284⟩ : S50)]) := ⟨_, rfl⟩
            replace H : (if 0 ≤ t285 then (if t285 ≤ (x0_1.size : Int) then (knapsackref07_All.l0 k1 (x0_1.extract (t285 : Int).toNat x0_1.size) y287) else (none)) else (none)) = some (r1, r2) := by first | (rw [hy287]; with_reducible exact H) | (have H2_ := (Option.bind_some _ _).symm.trans H; rw [hy287]; with_reducible exact H2_) | (have H2_ := (Option.bind_some _ _).symm.trans H; with_reducible exact H2_) | with_reducible exact H | (rw [hy287]; exact H) | exact H
            have Ny287 := Aside0.mk hy287
            clear hy287
            by_cases c9 : 0 ≤ t285
            · rw [if_pos c9] at H
              have c9b0 := eq_true c9
              have c9b1 : decide (0 ≤ t285) = true := decide_eq_true c9
              clear c9
              by_cases c10 : t285 ≤ (x0_1.size : Int)
              · rw [if_pos c10] at H
                have c10b0 := eq_true c10
                have c10b1 : decide (t285 ≤ (x0_1.size : Int)) = true := decide_eq_true c10
                clear c10
                have H' := Aside0.mk H
                clear H
                go_wp2_with (first | ((with_reducible refine gate_callee (f := 21) rfl ?_); refine goesL_ (some 11) rfl rfl Try.func21 (by kernel_rfl) rfl #[.string x0_1] rfl (by (try simp only [List.map_toArray, List.map_cons, List.map_nil]); first | done | rfl | (simp only [List.length_drop, List.length_take]; rfl)) ?_; (with_reducible refine (knapsackref07_Get.calls k1 x0_1 t283 t284 t285 _ A3.out).mono ?_); rintro e w11 ⟨rfl, hb⟩; refine ⟨_, rfl, ?_⟩; have n0_ := Aside0.mk (Kd.R_below (by (with_reducible repeat (first | apply Kd.R_alloc | apply Kd.R_drewN | apply Kd.R_drew)); exact HO_4.out) hb); have n1_ := Aside0.mk (below_step (by repeat (first | (with_reducible first | exact HB.out | apply below_alloc | apply pw_below_drewN | apply below_drew1) | exact HB.out)) hb); clear HO_4; clear HB; have HO_4 := n0_; have HB := n1_; clear n0_ n1_; (try clear hb); (try clear hb2); (try clear hk); (try clear hi)) | ((with_reducible refine gate_dst (N := 5) rfl ?_); refine box_event ?hg (N := 5) ?hd (cs := #[.int .i64 0, .string (⟨#[]⟩ : ByteArray)]) (t := 50) ?hr ?_; (case hd => rfl); (case hg => rfl); (case hr => first | (go_simp; done) | (go_simp; rfl)); intro gb286 hg w12 hbox hb; have n0_ := Aside0.mk (Kd.R_below (Kd.R_elderB (by (with_reducible repeat (first | apply Kd.R_alloc | apply Kd.R_drewN | apply Kd.R_drew)); exact HO_4.out) gb286 (Nat.le_of_eq hg.symm)) hb); have n1_ := Aside0.mk (below_step (by repeat (first | (with_reducible first | exact HB.out | apply below_alloc | apply pw_below_drewN | apply below_drew1) | exact HB.out)) hb); have n2_ := Aside0.mk (hbox); have n3_ := Aside0.mk ((by rw [hg]; exact (below_size (by repeat (first | (with_reducible first | exact HB.out | apply below_alloc | apply pw_below_drewN | apply below_drew1) | exact HB.out))) : w.heap.size ≤ gb286)); have n4_ := Aside0.mk ((by rw [hg]; exact (below_size (by repeat (first | (with_reducible first | exact HB.out | apply below_alloc | apply pw_below_drewN | apply below_drew1) | exact HB.out))) : w.heap.size ≤ gb286)); clear HO_4; clear HB; have HO_4 := n0_; have HB := n1_; have BK286 := n2_; have GW286 := n3_; have GE286 := n4_; clear n0_ n1_ n2_ n3_ n4_; clear hb hbox hg; have hcz13_0 : w12.cell? ⟨gb286, 0, none⟩ = some (.int .i64 0) := (blk_cell BK286.out 0).trans rfl; have hcz13_1 : w12.cell? ⟨gb286, 1, none⟩ = some (.string (⟨#[]⟩ : ByteArray)) := (blk_cell BK286.out 1).trans rfl; have hfz13_0 := blk_frozen BK286.out 0; have hfz13_1 := blk_frozen BK286.out 1) | ((with_reducible refine gate_builtin (b := .append) (xs := #[.tmp 16, .tmp 18]) rfl ?_); at_builtin; refine Kd.R_append k50 (w0 := w) w.heap.size rfl (.tmp 16) (.tmp 18) 27 50 (.agg #[(.int .i64 0), (.string ⟨#[]⟩)]) 24 rfl Try.underlying27 info50 rfl (by decide) (by omega) u4 x4_1 (⟨t283, t284⟩ : S50) [.int .i64 t283, .string t284] (fun k_ => k_ ≠ gb286) (fun _ => False) rfl (by first | (go_simp; done) | (go_simp; rfl)) ?aP (fun _ hk => hk.elim) ?aF ?aO ?aB ?aS ?aL ?_; (case aP => exact k50_mkM _ _ _ (⟨t283, t284⟩ : S50)); (case aB => exact (by repeat (first | (with_reducible first | exact HB.out | apply below_alloc | apply pw_below_drewN | apply below_drew1 | refine below_set ?_ GE286.out) | exact HB.out))); (case aF => exact (fun k_ hk => Kd.freshB (g := gb286) (o := .cells #[.int .i64 t283, .string t284] 50 (0, 0)) (by (with_reducible repeat (first | refine blk_drewN ?_ _ | refine blk_drew ?_ | refine blk_alloc ?_ _)); refine blk_put (cs := #[.int .i64 t283, .string (⟨#[]⟩ : ByteArray)]) ?_ 1 _ rfl; (with_reducible repeat (first | refine blk_drewN ?_ _ | refine blk_drew ?_ | refine blk_alloc ?_ _)); refine blk_put (cs := #[.int .i64 0, .string (⟨#[]⟩ : ByteArray)]) ?_ 0 _ rfl; (with_reducible repeat (first | refine blk_drewN ?_ _ | refine blk_drew ?_ | refine blk_alloc ?_ _)); exact BK286.out) k_ hk)); (case aO => exact (by (with_reducible repeat (first | apply Kd.R_alloc | apply Kd.R_drewN | apply Kd.R_drew)); exact Kd.R_mono (Kd.R_far (p := ⟨gb286, 1, none⟩) (Kd.R_far (p := ⟨gb286, 0, none⟩) (Kd.R_mono HO_4.out (fun k_ hk => (⟨hk, hk.2⟩ : _ ∧ k_ ≠ gb286))) (fun _ hk => hk.2) (.int .i64 t283)) (fun _ hk => hk.2) (.string t284)) (fun _ hk => hk.1.2))); (case aS => exact (below_size (by repeat (first | (with_reducible first | exact HB.out | apply below_alloc | apply pw_below_drewN | apply below_drew1 | refine below_set ?_ GE286.out) | exact HB.out)))); (case aL => have := LMc8.out; omega); intro v288 w14 ho hb hg hat; (first | rw [← Ny287.out] at ho | ((simp only [Int.reduceToNat] at ho); rw [← Ny287.out] at ho)); have n0_ := Aside0.mk (blk_grown (g := gb286) (o := .cells #[.int .i64 t283, .string t284] 50 (0, 0)) (by (with_reducible repeat (first | refine blk_drewN ?_ _ | refine blk_drew ?_ | refine blk_alloc ?_ _)); refine blk_put (cs := #[.int .i64 t283, .string (⟨#[]⟩ : ByteArray)]) ?_ 1 _ rfl; (with_reducible repeat (first | refine blk_drewN ?_ _ | refine blk_drew ?_ | refine blk_alloc ?_ _)); refine blk_put (cs := #[.int .i64 0, .string (⟨#[]⟩ : ByteArray)]) ?_ 0 _ rfl; (with_reducible repeat (first | refine blk_drewN ?_ _ | refine blk_drew ?_ | refine blk_alloc ?_ _)); exact BK286.out) hg (Kd.R_away HO_4.out (fun _ hk => hk.2))); have n1_ := Aside0.mk (hb); have n2_ := Aside0.mk (ho); clear BK286; clear HB; clear HO_4; have BK286 := n0_; have HB := n1_; have HO289 := n2_; clear n0_ n1_ n2_; clear ho hb hg hat))
                go_roundg k1
                case measure => have := HK1.out; omega
                case rel => exact ⟨(x0_1.extract (t285 : Int).toNat x0_1.size), (y287), (by first | rfl | (simp; done) | (simp; omega) | (simp [*]; done)), H', ⟨by have := HK1.out; omega⟩, ⟨by (with_reducible repeat (first | apply Kd.R_alloc | apply Kd.R_drewN | apply Kd.R_drew)); exact Kd.R_mono HO289.out (fun _ hk => trivial)⟩, ⟨by repeat (first | (with_reducible first | exact HB.out | apply below_alloc | apply pw_below_drewN | apply below_drew1 | refine below_set ?_ GE286.out) | exact HB.out)⟩⟩
              · rw [if_neg c10] at H
                exact absurd H (by simp)
            · rw [if_neg c9] at H
              exact absurd H (by simp)
          · rw [if_neg c8] at H
            exact absurd H (by simp)

/-! ### knapsacklaw07_PktGets: function 7 -/
def knapsacklaw07_PktGets.j0 : Nat → ByteArray → Bool → Option (Bool)
  | 0, _, _ => none
  | k + 1, x0, x69 => if x69 = true then (some false) else ((pkt_All.f k x0).bind fun bt300 => ((knapsackref07_All.f k x0).bind fun bt304 => ((knapsacklaw07_As.f k bt300.1).bind fun t308 => ((knapsacklaw07_Same.f k t308 bt304.1).bind fun t311 => ((knapsacklaw07_knows.f k).bind fun t312 => (if t312 = true then (if t311 = 1 then (if ((bt300.2 == 0) == bt304.2) = true then (if bt304.2 = true then (some true) else (some (bt300.2 == 2))) else (some false)) else (some false)) else (some false)))))))
def knapsacklaw07_PktGets.f (k : Nat) (a0 : ByteArray) : Option (Bool) := if (a0.size : Int) > 2500 then ((knapsacklaw07_knows.f k).bind fun t290 => (some t290)) else ((pkt_Get.f k a0).bind fun bt291 => ((knapsackref07_Get.f k a0).bind fun bt296 => (if bt291.1 = bt296.1 then (if bt291.2.1.toList = bt296.2.1.toList then (if ((bt291.2.2.2 == 0) != (decide (bt296.2.2 > 0))) = true then (knapsacklaw07_PktGets.j0 k a0 true) else (if bt296.2.2 > 0 then (if 0 ≤ bt296.2.2 then (if bt296.2.2 ≤ (a0.size : Int) then (if bt291.2.2.1.toList = (a0.extract (bt296.2.2 : Int).toNat a0.size).toList then (if bt296.2.2 = 0 then (if bt291.2.2.1.toList = ([] : List UInt8) then (knapsacklaw07_PktGets.j0 k a0 (bt291.2.2.2 != 2)) else (knapsacklaw07_PktGets.j0 k a0 true)) else (knapsacklaw07_PktGets.j0 k a0 false)) else (knapsacklaw07_PktGets.j0 k a0 true)) else (none)) else (none)) else (if bt296.2.2 = 0 then (if bt291.2.2.1.toList = ([] : List UInt8) then (knapsacklaw07_PktGets.j0 k a0 (bt291.2.2.2 != 2)) else (knapsacklaw07_PktGets.j0 k a0 true)) else (knapsacklaw07_PktGets.j0 k a0 false)))) else (knapsacklaw07_PktGets.j0 k a0 true)) else (knapsacklaw07_PktGets.j0 k a0 true))))
theorem knapsacklaw07_PktGets.mono_l : ∀ k, (∀ y0 y1, LeO (knapsacklaw07_PktGets.j0 k y0 y1) (knapsacklaw07_PktGets.j0 (k + 1) y0 y1))
  | 0 => fun _ _ r h => by simp [knapsacklaw07_PktGets.j0] at h
  | k + 1 => by
    have ih0 := knapsacklaw07_PktGets.mono_l k
    · intro y0 y1
      unfold knapsacklaw07_PktGets.j0
      repeat' first
      | (with_reducible exact ih0 _ _)
      | (with_reducible exact knapsacklaw07_As.mono _ _)
      | (with_reducible exact knapsacklaw07_Same.mono _ _ _)
      | (with_reducible exact knapsacklaw07_knows.mono _)
      | (with_reducible exact knapsackref07_All.mono _ _)
      | (with_reducible exact knapsackref07_Get.mono _ _)
      | (with_reducible exact pkt_All.mono _ _)
      | (with_reducible exact pkt_Get.mono _ _)
      | (with_reducible exact LeO.refl _)
      | (with_reducible exact LeO.none _)
      | (with_reducible refine LeO.ite ?_ ?_)
      | (with_reducible refine LeO.bind ?_ (fun _ => ?_))
      | exact ih0 _ _
      | exact knapsacklaw07_As.mono _ _
      | exact knapsacklaw07_Same.mono _ _ _
      | exact knapsacklaw07_knows.mono _
      | exact knapsackref07_All.mono _ _
      | exact knapsackref07_Get.mono _ _
      | exact pkt_All.mono _ _
      | exact pkt_Get.mono _ _
      | exact LeO.none _
      | refine LeO.ite ?_ ?_
      | refine LeO.bind ?_ (fun _ => ?_)
theorem knapsacklaw07_PktGets.mono : ∀ a0 k, LeO (knapsacklaw07_PktGets.f k a0) (knapsacklaw07_PktGets.f (k + 1) a0) := by
  intro a0 k
  have ih0 := knapsacklaw07_PktGets.mono_l k
  unfold knapsacklaw07_PktGets.f
  repeat' first
      | (with_reducible exact ih0 _ _)
      | (with_reducible exact knapsacklaw07_As.mono _ _)
      | (with_reducible exact knapsacklaw07_Same.mono _ _ _)
      | (with_reducible exact knapsacklaw07_knows.mono _)
      | (with_reducible exact knapsackref07_All.mono _ _)
      | (with_reducible exact knapsackref07_Get.mono _ _)
      | (with_reducible exact pkt_All.mono _ _)
      | (with_reducible exact pkt_Get.mono _ _)
      | (with_reducible exact LeO.refl _)
      | (with_reducible exact LeO.none _)
      | (with_reducible refine LeO.ite ?_ ?_)
      | (with_reducible refine LeO.bind ?_ (fun _ => ?_))
      | exact ih0 _ _
      | exact knapsacklaw07_As.mono _ _
      | exact knapsacklaw07_Same.mono _ _ _
      | exact knapsacklaw07_knows.mono _
      | exact knapsackref07_All.mono _ _
      | exact knapsackref07_Get.mono _ _
      | exact pkt_All.mono _ _
      | exact pkt_Get.mono _ _
      | exact LeO.none _
      | refine LeO.ite ?_ ?_
      | refine LeO.bind ?_ (fun _ => ?_)
set_option maxHeartbeats 8000000 in
set_option maxRecDepth 100000 in
theorem knapsacklaw07_PktGets.calls (k : Nat) (a0 : ByteArray) (r : Bool) (w : World) (h : knapsacklaw07_PktGets.f k a0 = some r) :
    Calls Try.prog 7 #[.string a0] w fun e w' => e = .returned (.bool r) ∧ Below w.heap.size w w' := by
  have hu34 := Try.underlying34
  have hu50 := Try.underlying50
  have HB := Aside0.mk (Below.refl w.heap.size w)
  have H : (if (a0.size : Int) > 2500 then ((knapsacklaw07_knows.f k).bind fun t290 => (some t290)) else ((pkt_Get.f k a0).bind fun bt291 => ((knapsackref07_Get.f k a0).bind fun bt296 => (if bt291.1 = bt296.1 then (if bt291.2.1.toList = bt296.2.1.toList then (if ((bt291.2.2.2 == 0) != (decide (bt296.2.2 > 0))) = true then (knapsacklaw07_PktGets.j0 k a0 true) else (if bt296.2.2 > 0 then (if 0 ≤ bt296.2.2 then (if bt296.2.2 ≤ (a0.size : Int) then (if bt291.2.2.1.toList = (a0.extract (bt296.2.2 : Int).toNat a0.size).toList then (if bt296.2.2 = 0 then (if bt291.2.2.1.toList = ([] : List UInt8) then (knapsacklaw07_PktGets.j0 k a0 (bt291.2.2.2 != 2)) else (knapsacklaw07_PktGets.j0 k a0 true)) else (knapsacklaw07_PktGets.j0 k a0 false)) else (knapsacklaw07_PktGets.j0 k a0 true)) else (none)) else (none)) else (if bt296.2.2 = 0 then (if bt291.2.2.1.toList = ([] : List UInt8) then (knapsacklaw07_PktGets.j0 k a0 (bt291.2.2.2 != 2)) else (knapsacklaw07_PktGets.j0 k a0 true)) else (knapsacklaw07_PktGets.j0 k a0 false)))) else (knapsacklaw07_PktGets.j0 k a0 true)) else (knapsacklaw07_PktGets.j0 k a0 true))))) = some r := h
  clear h
  by_cases c2 : (a0.size : Int) > 2500
  · rw [if_pos c2] at H
    have c2b0 : decide (2500 < (a0.size : Int)) = true := decide_eq_true c2
    have c2b1 : decide (2500 < a0.size) = true := decide_eq_true (by omega)
    clear c2
    replace H := Option.bind_eq_some_iff.mp H
    obtain ⟨t290, A30, H⟩ := H
    replace H : (some t290) = some r := H
    have A3 := Aside0.mk A30
    clear A30
    obtain rfl := Option.some.inj H
    go_enter Try.func7, Try.ntmps7
    go_wp2_with (first | ((with_reducible refine gate_callee (f := 17) rfl ?_); refine goesL_ (some 16) rfl rfl Try.func17 (by kernel_rfl) rfl #[] rfl (by (try simp only [List.map_toArray, List.map_cons, List.map_nil]); first | done | rfl | (simp only [List.length_drop, List.length_take]; rfl)) ?_; (with_reducible refine (knapsacklaw07_knows.calls k  t290 _ A3.out).mono ?_); rintro e w4 ⟨rfl, hb⟩; refine ⟨_, rfl, ?_⟩; have n0_ := Aside0.mk (below_step (by repeat (first | (with_reducible first | exact HB.out | apply below_alloc | apply pw_below_drewN | apply below_drew1) | exact HB.out)) hb); clear HB; have HB := n0_; clear n0_; (try clear hb); (try clear hb2); (try clear hk); (try clear hi)))
    go_ret
    exact ⟨by first | rfl | (simp [errW_none, errW_some] <;> rfl) | (simp [*, errW_none, errW_some] <;> rfl), by repeat (first | (with_reducible first | exact HB.out | apply below_alloc | apply pw_below_drewN | apply below_drew1) | exact HB.out)⟩
  · rw [if_neg c2] at H
    have c2b0 : decide (2500 < (a0.size : Int)) = false := decide_eq_false c2
    have c2b1 : decide (2500 < a0.size) = false := decide_eq_false (by omega)
    clear c2
    replace H := Option.bind_eq_some_iff.mp H
    obtain ⟨⟨t291, t292, t293, t294⟩, A50, H⟩ := H
    replace H : ((knapsackref07_Get.f k a0).bind fun bt296 => (if t291 = bt296.1 then (if t292.toList = bt296.2.1.toList then (if ((t294 == 0) != (decide (bt296.2.2 > 0))) = true then (knapsacklaw07_PktGets.j0 k a0 true) else (if bt296.2.2 > 0 then (if 0 ≤ bt296.2.2 then (if bt296.2.2 ≤ (a0.size : Int) then (if t293.toList = (a0.extract (bt296.2.2 : Int).toNat a0.size).toList then (if bt296.2.2 = 0 then (if t293.toList = ([] : List UInt8) then (knapsacklaw07_PktGets.j0 k a0 (t294 != 2)) else (knapsacklaw07_PktGets.j0 k a0 true)) else (knapsacklaw07_PktGets.j0 k a0 false)) else (knapsacklaw07_PktGets.j0 k a0 true)) else (none)) else (none)) else (if bt296.2.2 = 0 then (if t293.toList = ([] : List UInt8) then (knapsacklaw07_PktGets.j0 k a0 (t294 != 2)) else (knapsacklaw07_PktGets.j0 k a0 true)) else (knapsacklaw07_PktGets.j0 k a0 false)))) else (knapsacklaw07_PktGets.j0 k a0 true)) else (knapsacklaw07_PktGets.j0 k a0 true))) = some r := H
    have A5 := Aside0.mk A50
    clear A50
    replace H := Option.bind_eq_some_iff.mp H
    obtain ⟨⟨t296, t297, t298⟩, A60, H⟩ := H
    replace H : (if t291 = t296 then (if t292.toList = t297.toList then (if ((t294 == 0) != (decide (t298 > 0))) = true then (knapsacklaw07_PktGets.j0 k a0 true) else (if t298 > 0 then (if 0 ≤ t298 then (if t298 ≤ (a0.size : Int) then (if t293.toList = (a0.extract (t298 : Int).toNat a0.size).toList then (if t298 = 0 then (if t293.toList = ([] : List UInt8) then (knapsacklaw07_PktGets.j0 k a0 (t294 != 2)) else (knapsacklaw07_PktGets.j0 k a0 true)) else (knapsacklaw07_PktGets.j0 k a0 false)) else (knapsacklaw07_PktGets.j0 k a0 true)) else (none)) else (none)) else (if t298 = 0 then (if t293.toList = ([] : List UInt8) then (knapsacklaw07_PktGets.j0 k a0 (t294 != 2)) else (knapsacklaw07_PktGets.j0 k a0 true)) else (knapsacklaw07_PktGets.j0 k a0 false)))) else (knapsacklaw07_PktGets.j0 k a0 true)) else (knapsacklaw07_PktGets.j0 k a0 true)) = some r := H
    have A6 := Aside0.mk A60
    clear A60
    have HC7 := Aside0.mk H
    clear H
    go_enter Try.func7, Try.ntmps7
    go_upto_region 5 with (first | ((with_reducible refine gate_callee (f := 20) rfl ?_); refine goesL_ (some 19) rfl rfl Try.func20 (by kernel_rfl) rfl #[.string a0] rfl (by (try simp only [List.map_toArray, List.map_cons, List.map_nil]); first | done | rfl | (simp only [List.length_drop, List.length_take]; rfl)) ?_; (with_reducible refine (pkt_Get.calls k a0 t291 t292 t293 t294 _ A5.out).mono ?_); rintro e w8 ⟨rfl, hb⟩; refine ⟨_, rfl, ?_⟩; have n0_ := Aside0.mk (below_step (by repeat (first | (with_reducible first | exact HB.out | apply below_alloc | apply pw_below_drewN | apply below_drew1) | exact HB.out)) hb); clear HB; have HB := n0_; clear n0_; (try clear hb); (try clear hb2); (try clear hk); (try clear hi)) | ((with_reducible refine gate_dst (N := 3) rfl ?_); refine box_event ?hg (N := 3) ?hd (cs := #[.int .i64 0, .string (⟨#[]⟩ : ByteArray)]) (t := 34) ?hr ?_; (case hd => rfl); (case hg => rfl); (case hr => first | (go_simp; done) | (go_simp; rfl)); intro gb295 hg w9 hbox hb; have n0_ := Aside0.mk (below_step (by repeat (first | (with_reducible first | exact HB.out | apply below_alloc | apply pw_below_drewN | apply below_drew1) | exact HB.out)) hb); have n1_ := Aside0.mk (hbox); have n2_ := Aside0.mk ((by rw [hg]; exact (below_size (by repeat (first | (with_reducible first | exact HB.out | apply below_alloc | apply pw_below_drewN | apply below_drew1) | exact HB.out))) : w.heap.size ≤ gb295)); have n3_ := Aside0.mk ((by rw [hg]; exact (below_size (by repeat (first | (with_reducible first | exact HB.out | apply below_alloc | apply pw_below_drewN | apply below_drew1) | exact HB.out))) : w.heap.size ≤ gb295)); clear HB; have HB := n0_; have BK295 := n1_; have GW295 := n2_; have GE295 := n3_; clear n0_ n1_ n2_ n3_; clear hb hbox hg; have hcz10_0 : w9.cell? ⟨gb295, 0, none⟩ = some (.int .i64 0) := (blk_cell BK295.out 0).trans rfl; have hcz10_1 : w9.cell? ⟨gb295, 1, none⟩ = some (.string (⟨#[]⟩ : ByteArray)) := (blk_cell BK295.out 1).trans rfl; have hfz10_0 := blk_frozen BK295.out 0; have hfz10_1 := blk_frozen BK295.out 1) | ((with_reducible refine gate_callee (f := 21) rfl ?_); refine goesL_ (some 25) rfl rfl Try.func21 (by kernel_rfl) rfl #[.string a0] rfl (by (try simp only [List.map_toArray, List.map_cons, List.map_nil]); first | done | rfl | (simp only [List.length_drop, List.length_take]; rfl)) ?_; (with_reducible refine (knapsackref07_Get.calls k a0 t296 t297 t298 _ A6.out).mono ?_); rintro e w11 ⟨rfl, hb⟩; refine ⟨_, rfl, ?_⟩; have n0_ := Aside0.mk (blk_below (g := gb295) (o := .cells #[.int .i64 t291, .string t292] 34 (0, 0)) (by (with_reducible repeat (first | refine blk_drewN ?_ _ | refine blk_drew ?_ | refine blk_alloc ?_ _)); refine blk_put (cs := #[.int .i64 t291, .string (⟨#[]⟩ : ByteArray)]) ?_ 1 _ rfl; (with_reducible repeat (first | refine blk_drewN ?_ _ | refine blk_drew ?_ | refine blk_alloc ?_ _)); refine blk_put (cs := #[.int .i64 0, .string (⟨#[]⟩ : ByteArray)]) ?_ 0 _ rfl; (with_reducible repeat (first | refine blk_drewN ?_ _ | refine blk_drew ?_ | refine blk_alloc ?_ _)); exact BK295.out) hb); have n1_ := Aside0.mk (below_step (by repeat (first | (with_reducible first | exact HB.out | apply below_alloc | apply pw_below_drewN | apply below_drew1 | refine below_set ?_ GE295.out) | exact HB.out)) hb); clear BK295; clear HB; have BK295 := n0_; have HB := n1_; clear n0_ n1_; (try clear hb); (try clear hb2); (try clear hk); (try clear hi)) | ((with_reducible refine gate_dst (N := 6) rfl ?_); refine box_event ?hg (N := 6) ?hd (cs := #[.int .i64 0, .string (⟨#[]⟩ : ByteArray)]) (t := 50) ?hr ?_; (case hd => rfl); (case hg => rfl); (case hr => first | (go_simp; done) | (go_simp; rfl)); intro gb299 hg w12 hbox hb; have n0_ := Aside0.mk (blk_below (g := gb295) (o := .cells #[.int .i64 t291, .string t292] 34 (0, 0)) (by (with_reducible repeat (first | refine blk_drewN ?_ _ | refine blk_drew ?_ | refine blk_alloc ?_ _)); exact BK295.out) hb); have n1_ := Aside0.mk (below_step (by repeat (first | (with_reducible first | exact HB.out | apply below_alloc | apply pw_below_drewN | apply below_drew1 | refine below_set ?_ GE295.out) | exact HB.out)) hb); have n2_ := Aside0.mk (hbox); have n3_ := Aside0.mk ((by rw [hg]; exact (below_size (by repeat (first | (with_reducible first | exact HB.out | apply below_alloc | apply pw_below_drewN | apply below_drew1 | refine below_set ?_ GE295.out) | exact HB.out))) : w.heap.size ≤ gb299)); have n4_ := Aside0.mk ((by rw [hg]; exact (below_size (by repeat (first | (with_reducible first | exact HB.out | apply below_alloc | apply pw_below_drewN | apply below_drew1 | refine below_set ?_ GE295.out) | exact HB.out))) : w.heap.size ≤ gb299)); have n5_ := Aside0.mk ((by rw [hg]; exact Nat.ne_of_lt (blk_lt (g := gb295) (o := .cells #[.int .i64 t291, .string t292] 34 (0, 0)) (by (with_reducible repeat (first | refine blk_drewN ?_ _ | refine blk_drew ?_ | refine blk_alloc ?_ _)); exact BK295.out)) : gb295 ≠ gb299)); have n6_ := Aside0.mk ((by rw [hg]; exact Nat.ne_of_gt (blk_lt (g := gb295) (o := .cells #[.int .i64 t291, .string t292] 34 (0, 0)) (by (with_reducible repeat (first | refine blk_drewN ?_ _ | refine blk_drew ?_ | refine blk_alloc ?_ _)); exact BK295.out)) : gb299 ≠ gb295)); clear BK295; clear HB; have BK295 := n0_; have HB := n1_; have BK299 := n2_; have GW299 := n3_; have GE299 := n4_; have NB295_299 := n5_; have NB299_295 := n6_; clear n0_ n1_ n2_ n3_ n4_ n5_ n6_; clear hb hbox hg; have hnb13 := NB299_295.out; have hnc13 := NB295_299.out; have hcz14_0 : w12.cell? ⟨gb299, 0, none⟩ = some (.int .i64 0) := (blk_cell BK299.out 0).trans rfl; have hcz14_1 : w12.cell? ⟨gb299, 1, none⟩ = some (.string (⟨#[]⟩ : ByteArray)) := (blk_cell BK299.out 1).trans rfl; have hfz14_0 := blk_frozen BK299.out 0; have hfz14_1 := blk_frozen BK299.out 1))
    (try simp only [Act.put, List.setIfInBounds_toArray, List.set_cons_zero, List.set_cons_succ])
    go_cut [69] (fun v69 wc => ∃ (kq : Nat) (x69_6 : Bool), v69 = .bool x69_6 ∧ Aside0 (knapsacklaw07_PktGets.j0 kq a0 x69_6 = some r) ∧ Aside0 (kq ≤ k) ∧ Aside0 (wc.heap[gb295]? = some (.cells #[.int .i64 t291, .string t292] 34 (0, 0))) ∧ Aside0 (wc.heap[gb299]? = some (.cells #[.int .i64 t296, .string t297] 50 (0, 0))) ∧ Aside0 (Below w.heap.size w wc))
    case first =>
      have H := HC7.out
      clear HC7
      by_cases c15 : t291 = t296
      · rw [if_pos c15] at H
        have c15b0 : (t291 == t296) = true := beq_iff_eq.mpr c15
        have c15b1 : (t291 != t296) = false := bne_eq_false_iff_eq.mpr c15
        clear c15
        (first | rw [c15b0] | (simp only [i64_w, i32_w]; rw [c15b0]) | skip)
        by_cases c16 : t292.toList = t297.toList
        · rw [if_pos c16] at H
          have c16b0 : (t292.toList == t297.toList) = true := beq_iff_eq.mpr c16
          have c16b1 : (t292.toList != t297.toList) = false := bne_eq_false_iff_eq.mpr c16
          clear c16
          by_cases c17 : ((t294 == 0) != (decide (t298 > 0))) = true
          · rw [if_pos c17] at H
            have c17b0 : ((t294 == 0) != (decide (t298 > 0))) = true := c17
            (try (have c17b1 : decide ((t294 == 0) = (decide (t298 > 0))) = false := by simpa using c17))
            (try (have c17b2 : ((t294 == 0) == (decide (t298 > 0))) = false := by simpa using c17))
            (try (have c17b3 : ¬ ((t294 == 0) = (decide (t298 > 0))) := by simpa using c17))
            clear c17
            have H' := Aside0.mk H
            clear H
            have hnb18 := NB295_299.out
            have hnc18 := NB299_295.out
            have hcz19_0 : w12.cell? ⟨gb295, 0, none⟩ = some (.int .i64 t291) := (blk_cell BK295.out 0).trans rfl
            have hcz19_1 : w12.cell? ⟨gb295, 1, none⟩ = some (.string t292) := (blk_cell BK295.out 1).trans rfl
            have hfz19_0 := blk_frozen BK295.out 0
            have hfz19_1 := blk_frozen BK295.out 1
            have hcz20_0 : w12.cell? ⟨gb299, 0, none⟩ = some (.int .i64 0) := (blk_cell BK299.out 0).trans rfl
            have hcz20_1 : w12.cell? ⟨gb299, 1, none⟩ = some (.string (⟨#[]⟩ : ByteArray)) := (blk_cell BK299.out 1).trans rfl
            have hfz20_0 := blk_frozen BK299.out 0
            have hfz20_1 := blk_frozen BK299.out 1
            go_wp2
            go_meet
            case rel => exact ⟨_, (true), (by first | rfl | (simp; done) | (simp; omega) | (simp [*]; done)), H', ⟨by first | omega | exact Nat.le_refl _⟩, ⟨by (with_reducible repeat (first | refine blk_drewN ?_ _ | refine blk_drew ?_ | refine blk_alloc ?_ _)); refine blk_far ?_ NB295_299.out _; (with_reducible repeat (first | refine blk_drewN ?_ _ | refine blk_drew ?_ | refine blk_alloc ?_ _)); refine blk_far ?_ NB295_299.out _; (with_reducible repeat (first | refine blk_drewN ?_ _ | refine blk_drew ?_ | refine blk_alloc ?_ _)); exact BK295.out⟩, ⟨by (with_reducible repeat (first | refine blk_drewN ?_ _ | refine blk_drew ?_ | refine blk_alloc ?_ _)); refine blk_put (cs := #[.int .i64 t296, .string (⟨#[]⟩ : ByteArray)]) ?_ 1 _ rfl; (with_reducible repeat (first | refine blk_drewN ?_ _ | refine blk_drew ?_ | refine blk_alloc ?_ _)); refine blk_put (cs := #[.int .i64 0, .string (⟨#[]⟩ : ByteArray)]) ?_ 0 _ rfl; (with_reducible repeat (first | refine blk_drewN ?_ _ | refine blk_drew ?_ | refine blk_alloc ?_ _)); exact BK299.out⟩, ⟨by repeat (first | (with_reducible first | exact HB.out | apply below_alloc | apply pw_below_drewN | apply below_drew1 | refine below_set ?_ GE295.out | refine below_set ?_ GE299.out) | exact HB.out)⟩⟩
          · rw [if_neg c17] at H
            have c17b0 : ((t294 == 0) != (decide (t298 > 0))) = false := by simpa using c17
            (try (have c17b1 : decide ((t294 == 0) = (decide (t298 > 0))) = true := by simpa using c17))
            (try (have c17b2 : ((t294 == 0) == (decide (t298 > 0))) = true := by simpa using c17))
            clear c17
            by_cases c21 : t298 > 0
            · rw [if_pos c21] at H
              have cz_ : (t294 == 0) = true := by (have h_ := c17b0; rw [decide_eq_true c21] at h_; simpa using h_)
              have cy_ : (t294 != 0) = false := by simp only [bne, cz_, Bool.not_true, Bool.not_false]
              clear c17b0
              try clear c17b1
              try clear c17b2
              have c21b0 : decide (0 < t298) = true := decide_eq_true c21
              clear c21
              by_cases c22 : 0 ≤ t298
              · rw [if_pos c22] at H
                have c22b0 := eq_true c22
                have c22b1 : decide (0 ≤ t298) = true := decide_eq_true c22
                clear c22
                by_cases c23 : t298 ≤ (a0.size : Int)
                · rw [if_pos c23] at H
                  have c23b0 := eq_true c23
                  have c23b1 : decide (t298 ≤ (a0.size : Int)) = true := decide_eq_true c23
                  clear c23
                  by_cases c24 : t293.toList = (a0.extract (t298 : Int).toNat a0.size).toList
                  · rw [if_pos c24] at H
                    have c24b0 : (t293.toList == (a0.extract (t298 : Int).toNat a0.size).toList) = true := beq_iff_eq.mpr c24
                    have c24b1 : (t293.toList != (a0.extract (t298 : Int).toNat a0.size).toList) = false := bne_eq_false_iff_eq.mpr c24
                    clear c24
                    by_cases c25 : t298 = 0
                    · rw [if_pos c25] at H
                      have c25b0 : (t298 == 0) = true := beq_iff_eq.mpr c25
                      have c25b1 : (t298 != 0) = false := bne_eq_false_iff_eq.mpr c25
                      clear c25
                      by_cases c26 : t293.toList = ([] : List UInt8)
                      · rw [if_pos c26] at H
                        have c26b0 : (t293.toList == ([] : List UInt8)) = true := beq_iff_eq.mpr c26
                        have c26b1 : (t293.toList != ([] : List UInt8)) = false := bne_eq_false_iff_eq.mpr c26
                        clear c26
                        have H' := Aside0.mk H
                        clear H
                        have hnb27 := NB295_299.out
                        have hnc27 := NB299_295.out
                        have hcz28_0 : w12.cell? ⟨gb295, 0, none⟩ = some (.int .i64 t291) := (blk_cell BK295.out 0).trans rfl
                        have hcz28_1 : w12.cell? ⟨gb295, 1, none⟩ = some (.string t292) := (blk_cell BK295.out 1).trans rfl
                        have hfz28_0 := blk_frozen BK295.out 0
                        have hfz28_1 := blk_frozen BK295.out 1
                        have hcz29_0 : w12.cell? ⟨gb299, 0, none⟩ = some (.int .i64 0) := (blk_cell BK299.out 0).trans rfl
                        have hcz29_1 : w12.cell? ⟨gb299, 1, none⟩ = some (.string (⟨#[]⟩ : ByteArray)) := (blk_cell BK299.out 1).trans rfl
                        have hfz29_0 := blk_frozen BK299.out 0
                        have hfz29_1 := blk_frozen BK299.out 1
                        go_wp2
                        go_meet
                        case rel => exact ⟨_, ((t294 != 2)), (by first | rfl | (simp; done) | (simp; omega) | (simp [*]; done)), H', ⟨by first | omega | exact Nat.le_refl _⟩, ⟨by (with_reducible repeat (first | refine blk_drewN ?_ _ | refine blk_drew ?_ | refine blk_alloc ?_ _)); refine blk_far ?_ NB295_299.out _; (with_reducible repeat (first | refine blk_drewN ?_ _ | refine blk_drew ?_ | refine blk_alloc ?_ _)); refine blk_far ?_ NB295_299.out _; (with_reducible repeat (first | refine blk_drewN ?_ _ | refine blk_drew ?_ | refine blk_alloc ?_ _)); exact BK295.out⟩, ⟨by (with_reducible repeat (first | refine blk_drewN ?_ _ | refine blk_drew ?_ | refine blk_alloc ?_ _)); refine blk_put (cs := #[.int .i64 t296, .string (⟨#[]⟩ : ByteArray)]) ?_ 1 _ rfl; (with_reducible repeat (first | refine blk_drewN ?_ _ | refine blk_drew ?_ | refine blk_alloc ?_ _)); refine blk_put (cs := #[.int .i64 0, .string (⟨#[]⟩ : ByteArray)]) ?_ 0 _ rfl; (with_reducible repeat (first | refine blk_drewN ?_ _ | refine blk_drew ?_ | refine blk_alloc ?_ _)); exact BK299.out⟩, ⟨by repeat (first | (with_reducible first | exact HB.out | apply below_alloc | apply pw_below_drewN | apply below_drew1 | refine below_set ?_ GE295.out | refine below_set ?_ GE299.out) | exact HB.out)⟩⟩
                      · rw [if_neg c26] at H
                        have c26b0 : (t293.toList == ([] : List UInt8)) = false := beq_eq_false_iff_ne.mpr c26
                        have c26b1 : (t293.toList != ([] : List UInt8)) = true := bne_iff_ne.mpr c26
                        have H' := Aside0.mk H
                        clear H
                        have hnb30 := NB295_299.out
                        have hnc30 := NB299_295.out
                        have hcz31_0 : w12.cell? ⟨gb295, 0, none⟩ = some (.int .i64 t291) := (blk_cell BK295.out 0).trans rfl
                        have hcz31_1 : w12.cell? ⟨gb295, 1, none⟩ = some (.string t292) := (blk_cell BK295.out 1).trans rfl
                        have hfz31_0 := blk_frozen BK295.out 0
                        have hfz31_1 := blk_frozen BK295.out 1
                        have hcz32_0 : w12.cell? ⟨gb299, 0, none⟩ = some (.int .i64 0) := (blk_cell BK299.out 0).trans rfl
                        have hcz32_1 : w12.cell? ⟨gb299, 1, none⟩ = some (.string (⟨#[]⟩ : ByteArray)) := (blk_cell BK299.out 1).trans rfl
                        have hfz32_0 := blk_frozen BK299.out 0
                        have hfz32_1 := blk_frozen BK299.out 1
                        go_wp2
                        go_meet
                        case rel => exact ⟨_, (true), (by first | rfl | (simp; done) | (simp; omega) | (simp [*]; done)), H', ⟨by first | omega | exact Nat.le_refl _⟩, ⟨by (with_reducible repeat (first | refine blk_drewN ?_ _ | refine blk_drew ?_ | refine blk_alloc ?_ _)); refine blk_far ?_ NB295_299.out _; (with_reducible repeat (first | refine blk_drewN ?_ _ | refine blk_drew ?_ | refine blk_alloc ?_ _)); refine blk_far ?_ NB295_299.out _; (with_reducible repeat (first | refine blk_drewN ?_ _ | refine blk_drew ?_ | refine blk_alloc ?_ _)); exact BK295.out⟩, ⟨by (with_reducible repeat (first | refine blk_drewN ?_ _ | refine blk_drew ?_ | refine blk_alloc ?_ _)); refine blk_put (cs := #[.int .i64 t296, .string (⟨#[]⟩ : ByteArray)]) ?_ 1 _ rfl; (with_reducible repeat (first | refine blk_drewN ?_ _ | refine blk_drew ?_ | refine blk_alloc ?_ _)); refine blk_put (cs := #[.int .i64 0, .string (⟨#[]⟩ : ByteArray)]) ?_ 0 _ rfl; (with_reducible repeat (first | refine blk_drewN ?_ _ | refine blk_drew ?_ | refine blk_alloc ?_ _)); exact BK299.out⟩, ⟨by repeat (first | (with_reducible first | exact HB.out | apply below_alloc | apply pw_below_drewN | apply below_drew1 | refine below_set ?_ GE295.out | refine below_set ?_ GE299.out) | exact HB.out)⟩⟩
                    · rw [if_neg c25] at H
                      have c25b0 : (t298 == 0) = false := beq_eq_false_iff_ne.mpr c25
                      have c25b1 : (t298 != 0) = true := bne_iff_ne.mpr c25
                      have H' := Aside0.mk H
                      clear H
                      have hnb33 := NB295_299.out
                      have hnc33 := NB299_295.out
                      have hcz34_0 : w12.cell? ⟨gb295, 0, none⟩ = some (.int .i64 t291) := (blk_cell BK295.out 0).trans rfl
                      have hcz34_1 : w12.cell? ⟨gb295, 1, none⟩ = some (.string t292) := (blk_cell BK295.out 1).trans rfl
                      have hfz34_0 := blk_frozen BK295.out 0
                      have hfz34_1 := blk_frozen BK295.out 1
                      have hcz35_0 : w12.cell? ⟨gb299, 0, none⟩ = some (.int .i64 0) := (blk_cell BK299.out 0).trans rfl
                      have hcz35_1 : w12.cell? ⟨gb299, 1, none⟩ = some (.string (⟨#[]⟩ : ByteArray)) := (blk_cell BK299.out 1).trans rfl
                      have hfz35_0 := blk_frozen BK299.out 0
                      have hfz35_1 := blk_frozen BK299.out 1
                      go_wp2
                      go_meet
                      case rel => exact ⟨_, (false), (by first | rfl | (simp; done) | (simp; omega) | (simp [*]; done)), H', ⟨by first | omega | exact Nat.le_refl _⟩, ⟨by (with_reducible repeat (first | refine blk_drewN ?_ _ | refine blk_drew ?_ | refine blk_alloc ?_ _)); refine blk_far ?_ NB295_299.out _; (with_reducible repeat (first | refine blk_drewN ?_ _ | refine blk_drew ?_ | refine blk_alloc ?_ _)); refine blk_far ?_ NB295_299.out _; (with_reducible repeat (first | refine blk_drewN ?_ _ | refine blk_drew ?_ | refine blk_alloc ?_ _)); exact BK295.out⟩, ⟨by (with_reducible repeat (first | refine blk_drewN ?_ _ | refine blk_drew ?_ | refine blk_alloc ?_ _)); refine blk_put (cs := #[.int .i64 t296, .string (⟨#[]⟩ : ByteArray)]) ?_ 1 _ rfl; (with_reducible repeat (first | refine blk_drewN ?_ _ | refine blk_drew ?_ | refine blk_alloc ?_ _)); refine blk_put (cs := #[.int .i64 0, .string (⟨#[]⟩ : ByteArray)]) ?_ 0 _ rfl; (with_reducible repeat (first | refine blk_drewN ?_ _ | refine blk_drew ?_ | refine blk_alloc ?_ _)); exact BK299.out⟩, ⟨by repeat (first | (with_reducible first | exact HB.out | apply below_alloc | apply pw_below_drewN | apply below_drew1 | refine below_set ?_ GE295.out | refine below_set ?_ GE299.out) | exact HB.out)⟩⟩
                  · rw [if_neg c24] at H
                    have c24b0 : (t293.toList == (a0.extract (t298 : Int).toNat a0.size).toList) = false := beq_eq_false_iff_ne.mpr c24
                    have c24b1 : (t293.toList != (a0.extract (t298 : Int).toNat a0.size).toList) = true := bne_iff_ne.mpr c24
                    have H' := Aside0.mk H
                    clear H
                    have hnb36 := NB295_299.out
                    have hnc36 := NB299_295.out
                    have hcz37_0 : w12.cell? ⟨gb295, 0, none⟩ = some (.int .i64 t291) := (blk_cell BK295.out 0).trans rfl
                    have hcz37_1 : w12.cell? ⟨gb295, 1, none⟩ = some (.string t292) := (blk_cell BK295.out 1).trans rfl
                    have hfz37_0 := blk_frozen BK295.out 0
                    have hfz37_1 := blk_frozen BK295.out 1
                    have hcz38_0 : w12.cell? ⟨gb299, 0, none⟩ = some (.int .i64 0) := (blk_cell BK299.out 0).trans rfl
                    have hcz38_1 : w12.cell? ⟨gb299, 1, none⟩ = some (.string (⟨#[]⟩ : ByteArray)) := (blk_cell BK299.out 1).trans rfl
                    have hfz38_0 := blk_frozen BK299.out 0
                    have hfz38_1 := blk_frozen BK299.out 1
                    go_wp2
                    go_meet
                    case rel => exact ⟨_, (true), (by first | rfl | (simp; done) | (simp; omega) | (simp [*]; done)), H', ⟨by first | omega | exact Nat.le_refl _⟩, ⟨by (with_reducible repeat (first | refine blk_drewN ?_ _ | refine blk_drew ?_ | refine blk_alloc ?_ _)); refine blk_far ?_ NB295_299.out _; (with_reducible repeat (first | refine blk_drewN ?_ _ | refine blk_drew ?_ | refine blk_alloc ?_ _)); refine blk_far ?_ NB295_299.out _; (with_reducible repeat (first | refine blk_drewN ?_ _ | refine blk_drew ?_ | refine blk_alloc ?_ _)); exact BK295.out⟩, ⟨by (with_reducible repeat (first | refine blk_drewN ?_ _ | refine blk_drew ?_ | refine blk_alloc ?_ _)); refine blk_put (cs := #[.int .i64 t296, .string (⟨#[]⟩ : ByteArray)]) ?_ 1 _ rfl; (with_reducible repeat (first | refine blk_drewN ?_ _ | refine blk_drew ?_ | refine blk_alloc ?_ _)); refine blk_put (cs := #[.int .i64 0, .string (⟨#[]⟩ : ByteArray)]) ?_ 0 _ rfl; (with_reducible repeat (first | refine blk_drewN ?_ _ | refine blk_drew ?_ | refine blk_alloc ?_ _)); exact BK299.out⟩, ⟨by repeat (first | (with_reducible first | exact HB.out | apply below_alloc | apply pw_below_drewN | apply below_drew1 | refine below_set ?_ GE295.out | refine below_set ?_ GE299.out) | exact HB.out)⟩⟩
                · rw [if_neg c23] at H
                  exact absurd H (by simp)
              · rw [if_neg c22] at H
                exact absurd H (by simp)
            · rw [if_neg c21] at H
              have cz_ : (t294 == 0) = false := by (have h_ := c17b0; rw [decide_eq_false c21] at h_; simpa using h_)
              have cy_ : (t294 != 0) = true := by simp only [bne, cz_, Bool.not_true, Bool.not_false]
              clear c17b0
              try clear c17b1
              try clear c17b2
              have c21b0 : decide (0 < t298) = false := decide_eq_false c21
              clear c21
              by_cases c39 : t298 = 0
              · rw [if_pos c39] at H
                have c39b0 : (t298 == 0) = true := beq_iff_eq.mpr c39
                have c39b1 : (t298 != 0) = false := bne_eq_false_iff_eq.mpr c39
                clear c39
                by_cases c40 : t293.toList = ([] : List UInt8)
                · rw [if_pos c40] at H
                  have c40b0 : (t293.toList == ([] : List UInt8)) = true := beq_iff_eq.mpr c40
                  have c40b1 : (t293.toList != ([] : List UInt8)) = false := bne_eq_false_iff_eq.mpr c40
                  clear c40
                  have H' := Aside0.mk H
                  clear H
                  have hnb41 := NB295_299.out
                  have hnc41 := NB299_295.out
                  have hcz42_0 : w12.cell? ⟨gb295, 0, none⟩ = some (.int .i64 t291) := (blk_cell BK295.out 0).trans rfl
                  have hcz42_1 : w12.cell? ⟨gb295, 1, none⟩ = some (.string t292) := (blk_cell BK295.out 1).trans rfl
                  have hfz42_0 := blk_frozen BK295.out 0
                  have hfz42_1 := blk_frozen BK295.out 1
                  have hcz43_0 : w12.cell? ⟨gb299, 0, none⟩ = some (.int .i64 0) := (blk_cell BK299.out 0).trans rfl
                  have hcz43_1 : w12.cell? ⟨gb299, 1, none⟩ = some (.string (⟨#[]⟩ : ByteArray)) := (blk_cell BK299.out 1).trans rfl
                  have hfz43_0 := blk_frozen BK299.out 0
                  have hfz43_1 := blk_frozen BK299.out 1
                  go_wp2
                  go_meet
                  case rel => exact ⟨_, ((t294 != 2)), (by first | rfl | (simp; done) | (simp; omega) | (simp [*]; done)), H', ⟨by first | omega | exact Nat.le_refl _⟩, ⟨by (with_reducible repeat (first | refine blk_drewN ?_ _ | refine blk_drew ?_ | refine blk_alloc ?_ _)); refine blk_far ?_ NB295_299.out _; (with_reducible repeat (first | refine blk_drewN ?_ _ | refine blk_drew ?_ | refine blk_alloc ?_ _)); refine blk_far ?_ NB295_299.out _; (with_reducible repeat (first | refine blk_drewN ?_ _ | refine blk_drew ?_ | refine blk_alloc ?_ _)); exact BK295.out⟩, ⟨by (with_reducible repeat (first | refine blk_drewN ?_ _ | refine blk_drew ?_ | refine blk_alloc ?_ _)); refine blk_put (cs := #[.int .i64 t296, .string (⟨#[]⟩ : ByteArray)]) ?_ 1 _ rfl; (with_reducible repeat (first | refine blk_drewN ?_ _ | refine blk_drew ?_ | refine blk_alloc ?_ _)); refine blk_put (cs := #[.int .i64 0, .string (⟨#[]⟩ : ByteArray)]) ?_ 0 _ rfl; (with_reducible repeat (first | refine blk_drewN ?_ _ | refine blk_drew ?_ | refine blk_alloc ?_ _)); exact BK299.out⟩, ⟨by repeat (first | (with_reducible first | exact HB.out | apply below_alloc | apply pw_below_drewN | apply below_drew1 | refine below_set ?_ GE295.out | refine below_set ?_ GE299.out) | exact HB.out)⟩⟩
                · rw [if_neg c40] at H
                  have c40b0 : (t293.toList == ([] : List UInt8)) = false := beq_eq_false_iff_ne.mpr c40
                  have c40b1 : (t293.toList != ([] : List UInt8)) = true := bne_iff_ne.mpr c40
                  have H' := Aside0.mk H
                  clear H
                  have hnb44 := NB295_299.out
                  have hnc44 := NB299_295.out
                  have hcz45_0 : w12.cell? ⟨gb295, 0, none⟩ = some (.int .i64 t291) := (blk_cell BK295.out 0).trans rfl
                  have hcz45_1 : w12.cell? ⟨gb295, 1, none⟩ = some (.string t292) := (blk_cell BK295.out 1).trans rfl
                  have hfz45_0 := blk_frozen BK295.out 0
                  have hfz45_1 := blk_frozen BK295.out 1
                  have hcz46_0 : w12.cell? ⟨gb299, 0, none⟩ = some (.int .i64 0) := (blk_cell BK299.out 0).trans rfl
                  have hcz46_1 : w12.cell? ⟨gb299, 1, none⟩ = some (.string (⟨#[]⟩ : ByteArray)) := (blk_cell BK299.out 1).trans rfl
                  have hfz46_0 := blk_frozen BK299.out 0
                  have hfz46_1 := blk_frozen BK299.out 1
                  go_wp2
                  go_meet
                  case rel => exact ⟨_, (true), (by first | rfl | (simp; done) | (simp; omega) | (simp [*]; done)), H', ⟨by first | omega | exact Nat.le_refl _⟩, ⟨by (with_reducible repeat (first | refine blk_drewN ?_ _ | refine blk_drew ?_ | refine blk_alloc ?_ _)); refine blk_far ?_ NB295_299.out _; (with_reducible repeat (first | refine blk_drewN ?_ _ | refine blk_drew ?_ | refine blk_alloc ?_ _)); refine blk_far ?_ NB295_299.out _; (with_reducible repeat (first | refine blk_drewN ?_ _ | refine blk_drew ?_ | refine blk_alloc ?_ _)); exact BK295.out⟩, ⟨by (with_reducible repeat (first | refine blk_drewN ?_ _ | refine blk_drew ?_ | refine blk_alloc ?_ _)); refine blk_put (cs := #[.int .i64 t296, .string (⟨#[]⟩ : ByteArray)]) ?_ 1 _ rfl; (with_reducible repeat (first | refine blk_drewN ?_ _ | refine blk_drew ?_ | refine blk_alloc ?_ _)); refine blk_put (cs := #[.int .i64 0, .string (⟨#[]⟩ : ByteArray)]) ?_ 0 _ rfl; (with_reducible repeat (first | refine blk_drewN ?_ _ | refine blk_drew ?_ | refine blk_alloc ?_ _)); exact BK299.out⟩, ⟨by repeat (first | (with_reducible first | exact HB.out | apply below_alloc | apply pw_below_drewN | apply below_drew1 | refine below_set ?_ GE295.out | refine below_set ?_ GE299.out) | exact HB.out)⟩⟩
              · rw [if_neg c39] at H
                have c39b0 : (t298 == 0) = false := beq_eq_false_iff_ne.mpr c39
                have c39b1 : (t298 != 0) = true := bne_iff_ne.mpr c39
                have H' := Aside0.mk H
                clear H
                have hnb47 := NB295_299.out
                have hnc47 := NB299_295.out
                have hcz48_0 : w12.cell? ⟨gb295, 0, none⟩ = some (.int .i64 t291) := (blk_cell BK295.out 0).trans rfl
                have hcz48_1 : w12.cell? ⟨gb295, 1, none⟩ = some (.string t292) := (blk_cell BK295.out 1).trans rfl
                have hfz48_0 := blk_frozen BK295.out 0
                have hfz48_1 := blk_frozen BK295.out 1
                have hcz49_0 : w12.cell? ⟨gb299, 0, none⟩ = some (.int .i64 0) := (blk_cell BK299.out 0).trans rfl
                have hcz49_1 : w12.cell? ⟨gb299, 1, none⟩ = some (.string (⟨#[]⟩ : ByteArray)) := (blk_cell BK299.out 1).trans rfl
                have hfz49_0 := blk_frozen BK299.out 0
                have hfz49_1 := blk_frozen BK299.out 1
                go_wp2
                go_meet
                case rel => exact ⟨_, (false), (by first | rfl | (simp; done) | (simp; omega) | (simp [*]; done)), H', ⟨by first | omega | exact Nat.le_refl _⟩, ⟨by (with_reducible repeat (first | refine blk_drewN ?_ _ | refine blk_drew ?_ | refine blk_alloc ?_ _)); refine blk_far ?_ NB295_299.out _; (with_reducible repeat (first | refine blk_drewN ?_ _ | refine blk_drew ?_ | refine blk_alloc ?_ _)); refine blk_far ?_ NB295_299.out _; (with_reducible repeat (first | refine blk_drewN ?_ _ | refine blk_drew ?_ | refine blk_alloc ?_ _)); exact BK295.out⟩, ⟨by (with_reducible repeat (first | refine blk_drewN ?_ _ | refine blk_drew ?_ | refine blk_alloc ?_ _)); refine blk_put (cs := #[.int .i64 t296, .string (⟨#[]⟩ : ByteArray)]) ?_ 1 _ rfl; (with_reducible repeat (first | refine blk_drewN ?_ _ | refine blk_drew ?_ | refine blk_alloc ?_ _)); refine blk_put (cs := #[.int .i64 0, .string (⟨#[]⟩ : ByteArray)]) ?_ 0 _ rfl; (with_reducible repeat (first | refine blk_drewN ?_ _ | refine blk_drew ?_ | refine blk_alloc ?_ _)); exact BK299.out⟩, ⟨by repeat (first | (with_reducible first | exact HB.out | apply below_alloc | apply pw_below_drewN | apply below_drew1 | refine below_set ?_ GE295.out | refine below_set ?_ GE299.out) | exact HB.out)⟩⟩
        · rw [if_neg c16] at H
          have c16b0 : (t292.toList == t297.toList) = false := beq_eq_false_iff_ne.mpr c16
          have c16b1 : (t292.toList != t297.toList) = true := bne_iff_ne.mpr c16
          have H' := Aside0.mk H
          clear H
          have hnb50 := NB295_299.out
          have hnc50 := NB299_295.out
          have hcz51_0 : w12.cell? ⟨gb295, 0, none⟩ = some (.int .i64 t291) := (blk_cell BK295.out 0).trans rfl
          have hcz51_1 : w12.cell? ⟨gb295, 1, none⟩ = some (.string t292) := (blk_cell BK295.out 1).trans rfl
          have hfz51_0 := blk_frozen BK295.out 0
          have hfz51_1 := blk_frozen BK295.out 1
          have hcz52_0 : w12.cell? ⟨gb299, 0, none⟩ = some (.int .i64 0) := (blk_cell BK299.out 0).trans rfl
          have hcz52_1 : w12.cell? ⟨gb299, 1, none⟩ = some (.string (⟨#[]⟩ : ByteArray)) := (blk_cell BK299.out 1).trans rfl
          have hfz52_0 := blk_frozen BK299.out 0
          have hfz52_1 := blk_frozen BK299.out 1
          go_wp2
          go_meet
          case rel => exact ⟨_, (true), (by first | rfl | (simp; done) | (simp; omega) | (simp [*]; done)), H', ⟨by first | omega | exact Nat.le_refl _⟩, ⟨by (with_reducible repeat (first | refine blk_drewN ?_ _ | refine blk_drew ?_ | refine blk_alloc ?_ _)); refine blk_far ?_ NB295_299.out _; (with_reducible repeat (first | refine blk_drewN ?_ _ | refine blk_drew ?_ | refine blk_alloc ?_ _)); refine blk_far ?_ NB295_299.out _; (with_reducible repeat (first | refine blk_drewN ?_ _ | refine blk_drew ?_ | refine blk_alloc ?_ _)); exact BK295.out⟩, ⟨by (with_reducible repeat (first | refine blk_drewN ?_ _ | refine blk_drew ?_ | refine blk_alloc ?_ _)); refine blk_put (cs := #[.int .i64 t296, .string (⟨#[]⟩ : ByteArray)]) ?_ 1 _ rfl; (with_reducible repeat (first | refine blk_drewN ?_ _ | refine blk_drew ?_ | refine blk_alloc ?_ _)); refine blk_put (cs := #[.int .i64 0, .string (⟨#[]⟩ : ByteArray)]) ?_ 0 _ rfl; (with_reducible repeat (first | refine blk_drewN ?_ _ | refine blk_drew ?_ | refine blk_alloc ?_ _)); exact BK299.out⟩, ⟨by repeat (first | (with_reducible first | exact HB.out | apply below_alloc | apply pw_below_drewN | apply below_drew1 | refine below_set ?_ GE295.out | refine below_set ?_ GE299.out) | exact HB.out)⟩⟩
      · rw [if_neg c15] at H
        have c15b0 : (t291 == t296) = false := beq_eq_false_iff_ne.mpr c15
        have c15b1 : (t291 != t296) = true := bne_iff_ne.mpr c15
        (first | rw [c15b0] | (simp only [i64_w, i32_w]; rw [c15b0]) | skip)
        have H' := Aside0.mk H
        clear H
        have hnb53 := NB295_299.out
        have hnc53 := NB299_295.out
        have hcz54_0 : w12.cell? ⟨gb295, 0, none⟩ = some (.int .i64 t291) := (blk_cell BK295.out 0).trans rfl
        have hcz54_1 : w12.cell? ⟨gb295, 1, none⟩ = some (.string t292) := (blk_cell BK295.out 1).trans rfl
        have hfz54_0 := blk_frozen BK295.out 0
        have hfz54_1 := blk_frozen BK295.out 1
        have hcz55_0 : w12.cell? ⟨gb299, 0, none⟩ = some (.int .i64 0) := (blk_cell BK299.out 0).trans rfl
        have hcz55_1 : w12.cell? ⟨gb299, 1, none⟩ = some (.string (⟨#[]⟩ : ByteArray)) := (blk_cell BK299.out 1).trans rfl
        have hfz55_0 := blk_frozen BK299.out 0
        have hfz55_1 := blk_frozen BK299.out 1
        go_wp2
        go_meet
        case rel => exact ⟨_, (true), (by first | rfl | (simp; done) | (simp; omega) | (simp [*]; done)), H', ⟨by first | omega | exact Nat.le_refl _⟩, ⟨by (with_reducible repeat (first | refine blk_drewN ?_ _ | refine blk_drew ?_ | refine blk_alloc ?_ _)); refine blk_far ?_ NB295_299.out _; (with_reducible repeat (first | refine blk_drewN ?_ _ | refine blk_drew ?_ | refine blk_alloc ?_ _)); refine blk_far ?_ NB295_299.out _; (with_reducible repeat (first | refine blk_drewN ?_ _ | refine blk_drew ?_ | refine blk_alloc ?_ _)); exact BK295.out⟩, ⟨by (with_reducible repeat (first | refine blk_drewN ?_ _ | refine blk_drew ?_ | refine blk_alloc ?_ _)); refine blk_put (cs := #[.int .i64 t296, .string (⟨#[]⟩ : ByteArray)]) ?_ 1 _ rfl; (with_reducible repeat (first | refine blk_drewN ?_ _ | refine blk_drew ?_ | refine blk_alloc ?_ _)); refine blk_put (cs := #[.int .i64 0, .string (⟨#[]⟩ : ByteArray)]) ?_ 0 _ rfl; (with_reducible repeat (first | refine blk_drewN ?_ _ | refine blk_drew ?_ | refine blk_alloc ?_ _)); exact BK299.out⟩, ⟨by repeat (first | (with_reducible first | exact HB.out | apply below_alloc | apply pw_below_drewN | apply below_drew1 | refine below_set ?_ GE295.out | refine below_set ?_ GE299.out) | exact HB.out)⟩⟩
    case rest =>
      clear HC7
      try clear c1
      try clear c2
      try clear c2b0
      try clear c2b1
      try clear p2
      try clear c3
      try clear c4
      try clear c5
      try clear c7
      try clear c13
      try clear c15
      try clear c15b0
      try clear c15b1
      try clear c16
      try clear c16b0
      try clear c16b1
      try clear c17
      try clear c17b0
      try clear c17b1
      try clear c17b2
      try clear c18
      try clear c20
      try clear c21
      try clear c21b0
      try clear c22
      try clear c22b0
      try clear c22b1
      try clear c23
      try clear c23b0
      try clear c23b1
      try clear c24
      try clear c24b0
      try clear c24b1
      try clear c25
      try clear c25b0
      try clear c25b1
      try clear c26
      try clear c26b0
      try clear c26b1
      try clear c27
      try clear c30
      try clear c33
      try clear c36
      try clear c39
      try clear c39b0
      try clear c39b1
      try clear c40
      try clear c40b0
      try clear c40b1
      try clear c41
      try clear c44
      try clear c47
      try clear c50
      try clear c53
      try clear hcz10_0
      try clear hcz10_1
      try clear hcz14_0
      try clear hcz14_1
      try clear hcz19_0
      try clear hcz19_1
      try clear hcz20_0
      try clear hcz20_1
      try clear hcz28_0
      try clear hcz28_1
      try clear hcz29_0
      try clear hcz29_1
      try clear hcz31_0
      try clear hcz31_1
      try clear hcz32_0
      try clear hcz32_1
      try clear hcz34_0
      try clear hcz34_1
      try clear hcz35_0
      try clear hcz35_1
      try clear hcz37_0
      try clear hcz37_1
      try clear hcz38_0
      try clear hcz38_1
      try clear hcz42_0
      try clear hcz42_1
      try clear hcz43_0
      try clear hcz43_1
      try clear hcz45_0
      try clear hcz45_1
      try clear hcz46_0
      try clear hcz46_1
      try clear hcz48_0
      try clear hcz48_1
      try clear hcz49_0
      try clear hcz49_1
      try clear hcz51_0
      try clear hcz51_1
      try clear hcz52_0
      try clear hcz52_1
      try clear hcz54_0
      try clear hcz54_1
      try clear hcz55_0
      try clear hcz55_1
      try clear hfz10_0
      try clear hfz10_1
      try clear hfz14_0
      try clear hfz14_1
      try clear hfz19_0
      try clear hfz19_1
      try clear hfz20_0
      try clear hfz20_1
      try clear hfz28_0
      try clear hfz28_1
      try clear hfz29_0
      try clear hfz29_1
      try clear hfz31_0
      try clear hfz31_1
      try clear hfz32_0
      try clear hfz32_1
      try clear hfz34_0
      try clear hfz34_1
      try clear hfz35_0
      try clear hfz35_1
      try clear hfz37_0
      try clear hfz37_1
      try clear hfz38_0
      try clear hfz38_1
      try clear hfz42_0
      try clear hfz42_1
      try clear hfz43_0
      try clear hfz43_1
      try clear hfz45_0
      try clear hfz45_1
      try clear hfz46_0
      try clear hfz46_1
      try clear hfz48_0
      try clear hfz48_1
      try clear hfz49_0
      try clear hfz49_1
      try clear hfz51_0
      try clear hfz51_1
      try clear hfz52_0
      try clear hfz52_1
      try clear hfz54_0
      try clear hfz54_1
      try clear hfz55_0
      try clear hfz55_1
      obtain ⟨kq, x69_6, rfl, HA, HJ6, BK295, BK299, HB⟩ := hcut
      cases kq with
      | zero => exact absurd HA.out (by simp [knapsacklaw07_PktGets.j0])
      | succ kj6 =>
        have H := HA.out
        clear HA
        simp only [knapsacklaw07_PktGets.j0] at H
        by_cases c56 : x69_6 = true
        · subst c56
          have H1 : (some false) = some r := by rw [if_pos rfl] at H; exact H
          clear H
          have H := H1
          clear H1
          obtain rfl := Option.some.inj H
          go_wp2
          go_ret
          exact ⟨by first | rfl | (simp [errW_none, errW_some] <;> rfl) | (simp [*, errW_none, errW_some] <;> rfl), by repeat (first | (with_reducible first | exact HB.out | apply below_alloc | apply pw_below_drewN | apply below_drew1 | refine below_set ?_ GE295.out | refine below_set ?_ GE299.out) | exact HB.out)⟩
        · replace c56 := Bool.eq_false_iff.mpr c56
          subst c56
          have H1 : ((pkt_All.f kj6 a0).bind fun bt300 => ((knapsackref07_All.f kj6 a0).bind fun bt304 => ((knapsacklaw07_As.f kj6 bt300.1).bind fun t308 => ((knapsacklaw07_Same.f kj6 t308 bt304.1).bind fun t311 => ((knapsacklaw07_knows.f kj6).bind fun t312 => (if t312 = true then (if t311 = 1 then (if ((bt300.2 == 0) == bt304.2) = true then (if bt304.2 = true then (some true) else (some (bt300.2 == 2))) else (some false)) else (some false)) else (some false))))))) = some r := by rw [if_neg (show ¬ (false = true) by decide)] at H; exact H
          clear H
          have H := H1
          clear H1
          replace H := Option.bind_eq_some_iff.mp H
          obtain ⟨⟨t300, t301⟩, A570, H⟩ := H
          replace H : ((knapsackref07_All.f kj6 a0).bind fun bt304 => ((knapsacklaw07_As.f kj6 t300).bind fun t308 => ((knapsacklaw07_Same.f kj6 t308 bt304.1).bind fun t311 => ((knapsacklaw07_knows.f kj6).bind fun t312 => (if t312 = true then (if t311 = 1 then (if ((t301 == 0) == bt304.2) = true then (if bt304.2 = true then (some true) else (some (t301 == 2))) else (some false)) else (some false)) else (some false)))))) = some r := H
          have A57 := Aside0.mk A570
          clear A570
          replace H := Option.bind_eq_some_iff.mp H
          obtain ⟨⟨t304, t305⟩, A580, H⟩ := H
          replace H : ((knapsacklaw07_As.f kj6 t300).bind fun t308 => ((knapsacklaw07_Same.f kj6 t308 t304).bind fun t311 => ((knapsacklaw07_knows.f kj6).bind fun t312 => (if t312 = true then (if t311 = 1 then (if ((t301 == 0) == t305) = true then (if t305 = true then (some true) else (some (t301 == 2))) else (some false)) else (some false)) else (some false))))) = some r := H
          have A58 := Aside0.mk A580
          clear A580
          replace H := Option.bind_eq_some_iff.mp H
          obtain ⟨t308, A590, H⟩ := H
          replace H : ((knapsacklaw07_Same.f kj6 t308 t304).bind fun t311 => ((knapsacklaw07_knows.f kj6).bind fun t312 => (if t312 = true then (if t311 = 1 then (if ((t301 == 0) == t305) = true then (if t305 = true then (some true) else (some (t301 == 2))) else (some false)) else (some false)) else (some false)))) = some r := H
          have A59 := Aside0.mk A590
          clear A590
          replace H := Option.bind_eq_some_iff.mp H
          obtain ⟨t311, A600, H⟩ := H
          replace H : ((knapsacklaw07_knows.f kj6).bind fun t312 => (if t312 = true then (if t311 = 1 then (if ((t301 == 0) == t305) = true then (if t305 = true then (some true) else (some (t301 == 2))) else (some false)) else (some false)) else (some false))) = some r := H
          have A60 := Aside0.mk A600
          clear A600
          replace H := Option.bind_eq_some_iff.mp H
          obtain ⟨t312, A610, H⟩ := H
          replace H : (if t312 = true then (if t311 = 1 then (if ((t301 == 0) == t305) = true then (if t305 = true then (some true) else (some (t301 == 2))) else (some false)) else (some false)) else (some false)) = some r := H
          have A61 := Aside0.mk A610
          clear A610
          by_cases c62 : t312 = true
          · subst c62
            have H1 : (if t311 = 1 then (if ((t301 == 0) == t305) = true then (if t305 = true then (some true) else (some (t301 == 2))) else (some false)) else (some false)) = some r := by rw [if_pos rfl] at H; exact H
            clear H
            have H := H1
            clear H1
            by_cases c63 : t311 = 1
            · rw [if_pos c63] at H
              have c63b0 : (t311 == 1) = true := beq_iff_eq.mpr c63
              have c63b1 : (t311 != 1) = false := bne_eq_false_iff_eq.mpr c63
              clear c63
              by_cases c64 : ((t301 == 0) == t305) = true
              · rw [if_pos c64] at H
                have c64b0 : ((t301 == 0) == t305) = true := c64
                (try (have c64b1 : decide ((t301 == 0) = t305) = true := by simpa using c64))
                (try (have c64b2 : ((t301 == 0) == t305) = true := by simpa using c64))
                clear c64
                by_cases c65 : t305 = true
                · subst c65
                  have H1 : (some true) = some r := by rw [if_pos rfl] at H; exact H
                  clear H
                  have H := H1
                  clear H1
                  obtain rfl := Option.some.inj H
                  go_wp2_with (first | ((with_reducible refine gate_callee (f := 22) rfl ?_); refine goesL_ (some 72) rfl rfl Try.func22 (by kernel_rfl) rfl #[.string a0] rfl (by (try simp only [List.map_toArray, List.map_cons, List.map_nil]); first | done | rfl | (simp only [List.length_drop, List.length_take]; rfl)) ?_; (with_reducible refine (pkt_All.calls kj6 a0 t300 t301 _ A57.out).mono ?_); rintro e w66 ⟨v302, rfl, ho0, hb⟩; refine ⟨_, rfl, ?_⟩; have n0_ := Aside0.mk (Kd.R_lower (Kd.R_newB ho0 (g := gb295) (o := .cells #[.int .i64 t291, .string t292] 34 (0, 0)) (by (with_reducible repeat (first | refine blk_drewN ?_ _ | refine blk_drew ?_ | refine blk_alloc ?_ _)); exact BK295.out)) (below_size (by repeat (first | (with_reducible first | exact HB.out | apply below_alloc | apply pw_below_drewN | apply below_drew1 | refine below_set ?_ GE295.out | refine below_set ?_ GE299.out) | exact HB.out)))); have n1_ := Aside0.mk (blk_below (g := gb295) (o := .cells #[.int .i64 t291, .string t292] 34 (0, 0)) (by (with_reducible repeat (first | refine blk_drewN ?_ _ | refine blk_drew ?_ | refine blk_alloc ?_ _)); exact BK295.out) hb); have n2_ := Aside0.mk (blk_below (g := gb299) (o := .cells #[.int .i64 t296, .string t297] 50 (0, 0)) (by (with_reducible repeat (first | refine blk_drewN ?_ _ | refine blk_drew ?_ | refine blk_alloc ?_ _)); exact BK299.out) hb); have n3_ := Aside0.mk (below_step (by repeat (first | (with_reducible first | exact HB.out | apply below_alloc | apply pw_below_drewN | apply below_drew1 | refine below_set ?_ GE295.out | refine below_set ?_ GE299.out) | exact HB.out)) hb); clear BK295; clear BK299; clear HB; have HO303 := n0_; have BK295 := n1_; have BK299 := n2_; have HB := n3_; clear n0_ n1_ n2_ n3_; (try clear hb); (try clear hb2); (try clear hk); (try clear hi); (try clear ho0)) | ((with_reducible refine gate_callee (f := 23) rfl ?_); refine goesL_ (some 77) rfl rfl Try.func23 (by kernel_rfl) rfl #[.string a0] rfl (by (try simp only [List.map_toArray, List.map_cons, List.map_nil]); first | done | rfl | (simp only [List.length_drop, List.length_take]; rfl)) ?_; (with_reducible refine (knapsackref07_All.calls kj6 a0 t304 true _ A58.out).mono ?_); rintro e w67 ⟨v306, rfl, ho0, hb⟩; refine ⟨_, rfl, ?_⟩; have n0_ := Aside0.mk (Kd.R_below (by (with_reducible repeat (first | apply Kd.R_alloc | apply Kd.R_drewN | apply Kd.R_drew)); exact HO303.out) hb); have n1_ := Aside0.mk (Kd.R_lower (Kd.R_newB ho0 (g := gb299) (o := .cells #[.int .i64 t296, .string t297] 50 (0, 0)) (by (with_reducible repeat (first | refine blk_drewN ?_ _ | refine blk_drew ?_ | refine blk_alloc ?_ _)); exact BK299.out)) (below_size (by repeat (first | (with_reducible first | exact HB.out | apply below_alloc | apply pw_below_drewN | apply below_drew1 | refine below_set ?_ GE295.out | refine below_set ?_ GE299.out) | exact HB.out)))); have n2_ := Aside0.mk (blk_below (g := gb295) (o := .cells #[.int .i64 t291, .string t292] 34 (0, 0)) (by (with_reducible repeat (first | refine blk_drewN ?_ _ | refine blk_drew ?_ | refine blk_alloc ?_ _)); exact BK295.out) hb); have n3_ := Aside0.mk (blk_below (g := gb299) (o := .cells #[.int .i64 t296, .string t297] 50 (0, 0)) (by (with_reducible repeat (first | refine blk_drewN ?_ _ | refine blk_drew ?_ | refine blk_alloc ?_ _)); exact BK299.out) hb); have n4_ := Aside0.mk (below_step (by repeat (first | (with_reducible first | exact HB.out | apply below_alloc | apply pw_below_drewN | apply below_drew1 | refine below_set ?_ GE295.out | refine below_set ?_ GE299.out) | exact HB.out)) hb); clear HO303; clear BK295; clear BK299; clear HB; have HO303 := n0_; have HO307 := n1_; have BK295 := n2_; have BK299 := n3_; have HB := n4_; clear n0_ n1_ n2_ n3_ n4_; (try clear hb); (try clear hb2); (try clear hk); (try clear hi); (try clear ho0); obtain ⟨Ao68, co68, eo68⟩ := Kd.R_slice HO303.out; subst eo68) | ((with_reducible refine gate_callee (f := 13) rfl ?_); refine goesL_ (some 81) rfl rfl Try.func13 (by kernel_rfl) rfl #[.slice Ao68 t300.length co68] rfl (by (try simp only [List.map_toArray, List.map_cons, List.map_nil]); first | done | rfl | (simp only [List.length_drop, List.length_take]; rfl)) ?_; (with_reducible refine (knapsacklaw07_As.calls kj6 _ _ t300 t308 _ ?side1 ?side2 A59.out).mono ?_); (case side1 => repeat (first | exact (Kd.R_reads' HO303.out).2.2 | (with_reducible refine Kd.C_alloc ?_ _) | (with_reducible refine Kd.C_drewN ?_ _) | (with_reducible refine Kd.C_drew ?_))); (case side2 => exact (Kd.R_reads' HO303.out).2.1); rintro e w69 ⟨v309, rfl, ho0, hb⟩; refine ⟨_, rfl, ?_⟩; have n0_ := Aside0.mk (Kd.R_below (by (with_reducible repeat (first | apply Kd.R_alloc | apply Kd.R_drewN | apply Kd.R_drew)); exact HO303.out) hb); have n1_ := Aside0.mk (Kd.R_elder' (by (with_reducible repeat (first | apply Kd.R_alloc | apply Kd.R_drewN | apply Kd.R_drew)); exact HO307.out) (Kd.R_base ho0) hb); have n2_ := Aside0.mk (Kd.R_lower (Kd.R_newB (Kd.R_new' ho0 (Kd.R_lt (by (with_reducible repeat (first | apply Kd.R_alloc | apply Kd.R_drewN | apply Kd.R_drew)); exact HO307.out))) (g := gb299) (o := .cells #[.int .i64 t296, .string t297] 50 (0, 0)) (by (with_reducible repeat (first | refine blk_drewN ?_ _ | refine blk_drew ?_ | refine blk_alloc ?_ _)); exact BK299.out)) (below_size (by repeat (first | (with_reducible first | exact HB.out | apply below_alloc | apply pw_below_drewN | apply below_drew1 | refine below_set ?_ GE295.out | refine below_set ?_ GE299.out) | exact HB.out)))); have n3_ := Aside0.mk (blk_below (g := gb295) (o := .cells #[.int .i64 t291, .string t292] 34 (0, 0)) (by (with_reducible repeat (first | refine blk_drewN ?_ _ | refine blk_drew ?_ | refine blk_alloc ?_ _)); exact BK295.out) hb); have n4_ := Aside0.mk (blk_below (g := gb299) (o := .cells #[.int .i64 t296, .string t297] 50 (0, 0)) (by (with_reducible repeat (first | refine blk_drewN ?_ _ | refine blk_drew ?_ | refine blk_alloc ?_ _)); exact BK299.out) hb); have n5_ := Aside0.mk (below_step (by repeat (first | (with_reducible first | exact HB.out | apply below_alloc | apply pw_below_drewN | apply below_drew1 | refine below_set ?_ GE295.out | refine below_set ?_ GE299.out) | exact HB.out)) hb); clear HO303; clear HO307; clear BK295; clear BK299; clear HB; have HO303 := n0_; have HO307 := n1_; have HO310 := n2_; have BK295 := n3_; have BK299 := n4_; have HB := n5_; clear n0_ n1_ n2_ n3_ n4_ n5_; (try clear hb); (try clear hb2); (try clear hk); (try clear hi); (try clear ho0); obtain ⟨Ao70, co70, eo70⟩ := Kd.R_slice HO310.out; subst eo70; obtain ⟨Ao71, co71, eo71⟩ := Kd.R_slice HO307.out; subst eo71) | ((with_reducible refine gate_callee (f := 12) rfl ?_); refine goesL_ (some 83) rfl rfl Try.func12 (by kernel_rfl) rfl #[.slice Ao70 t308.length co70, .slice Ao71 t304.length co71] rfl (by (try simp only [List.map_toArray, List.map_cons, List.map_nil]); first | done | rfl | (simp only [List.length_drop, List.length_take]; rfl)) ?_; (with_reducible refine (knapsacklaw07_Same.calls kj6 _ _ t308 _ _ t304 t311 _ ?side1 ?side2 ?side3 ?side4 A60.out).mono ?_); (case side1 => repeat (first | exact (Kd.R_reads' HO310.out).2.2 | (with_reducible refine Kd.C_alloc ?_ _) | (with_reducible refine Kd.C_drewN ?_ _) | (with_reducible refine Kd.C_drew ?_))); (case side2 => exact (Kd.R_reads' HO310.out).2.1); (case side3 => repeat (first | exact (Kd.R_reads' HO307.out).2.2 | (with_reducible refine Kd.C_alloc ?_ _) | (with_reducible refine Kd.C_drewN ?_ _) | (with_reducible refine Kd.C_drew ?_))); (case side4 => exact (Kd.R_reads' HO307.out).2.1); rintro e w' ⟨rfl, ⟨nd, rfl⟩⟩; refine ⟨_, rfl, ?_⟩) | ((with_reducible refine gate_callee (f := 17) rfl ?_); refine goesL_ (some 85) rfl rfl Try.func17 (by kernel_rfl) rfl #[] rfl (by (try simp only [List.map_toArray, List.map_cons, List.map_nil]); first | done | rfl | (simp only [List.length_drop, List.length_take]; rfl)) ?_; (with_reducible refine (knapsacklaw07_knows.calls kj6  true _ A61.out).mono ?_); rintro e w72 ⟨rfl, hb⟩; refine ⟨_, rfl, ?_⟩; have n0_ := Aside0.mk (Kd.R_below (by (with_reducible repeat (first | apply Kd.R_alloc | apply Kd.R_drewN | apply Kd.R_drew)); exact HO303.out) hb); have n1_ := Aside0.mk (Kd.R_below (by (with_reducible repeat (first | apply Kd.R_alloc | apply Kd.R_drewN | apply Kd.R_drew)); exact HO307.out) hb); have n2_ := Aside0.mk (Kd.R_below (by (with_reducible repeat (first | apply Kd.R_alloc | apply Kd.R_drewN | apply Kd.R_drew)); exact HO310.out) hb); have n3_ := Aside0.mk (blk_below (g := gb295) (o := .cells #[.int .i64 t291, .string t292] 34 (0, 0)) (by (with_reducible repeat (first | refine blk_drewN ?_ _ | refine blk_drew ?_ | refine blk_alloc ?_ _)); exact BK295.out) hb); have n4_ := Aside0.mk (blk_below (g := gb299) (o := .cells #[.int .i64 t296, .string t297] 50 (0, 0)) (by (with_reducible repeat (first | refine blk_drewN ?_ _ | refine blk_drew ?_ | refine blk_alloc ?_ _)); exact BK299.out) hb); have n5_ := Aside0.mk (below_step (by repeat (first | (with_reducible first | exact HB.out | apply below_alloc | apply pw_below_drewN | apply below_drew1 | refine below_set ?_ GE295.out | refine below_set ?_ GE299.out) | exact HB.out)) hb); clear HO303; clear HO307; clear HO310; clear BK295; clear BK299; clear HB; have HO303 := n0_; have HO307 := n1_; have HO310 := n2_; have BK295 := n3_; have BK299 := n4_; have HB := n5_; clear n0_ n1_ n2_ n3_ n4_ n5_; (try clear hb); (try clear hb2); (try clear hk); (try clear hi)))
                  go_ret
                  exact ⟨by first | rfl | (simp [errW_none, errW_some] <;> rfl) | (simp [*, errW_none, errW_some] <;> rfl), by repeat (first | (with_reducible first | exact HB.out | apply below_alloc | apply pw_below_drewN | apply below_drew1 | refine below_set ?_ GE295.out | refine below_set ?_ GE299.out) | exact HB.out)⟩
                · replace c65 := Bool.eq_false_iff.mpr c65
                  subst c65
                  have H1 : (some (t301 == 2)) = some r := by rw [if_neg (show ¬ (false = true) by decide)] at H; exact H
                  clear H
                  have H := H1
                  clear H1
                  obtain rfl := Option.some.inj H
                  go_wp2_with (first | ((with_reducible refine gate_callee (f := 22) rfl ?_); refine goesL_ (some 72) rfl rfl Try.func22 (by kernel_rfl) rfl #[.string a0] rfl (by (try simp only [List.map_toArray, List.map_cons, List.map_nil]); first | done | rfl | (simp only [List.length_drop, List.length_take]; rfl)) ?_; (with_reducible refine (pkt_All.calls kj6 a0 t300 t301 _ A57.out).mono ?_); rintro e w73 ⟨v302, rfl, ho0, hb⟩; refine ⟨_, rfl, ?_⟩; have n0_ := Aside0.mk (Kd.R_lower (Kd.R_newB ho0 (g := gb295) (o := .cells #[.int .i64 t291, .string t292] 34 (0, 0)) (by (with_reducible repeat (first | refine blk_drewN ?_ _ | refine blk_drew ?_ | refine blk_alloc ?_ _)); exact BK295.out)) (below_size (by repeat (first | (with_reducible first | exact HB.out | apply below_alloc | apply pw_below_drewN | apply below_drew1 | refine below_set ?_ GE295.out | refine below_set ?_ GE299.out) | exact HB.out)))); have n1_ := Aside0.mk (blk_below (g := gb295) (o := .cells #[.int .i64 t291, .string t292] 34 (0, 0)) (by (with_reducible repeat (first | refine blk_drewN ?_ _ | refine blk_drew ?_ | refine blk_alloc ?_ _)); exact BK295.out) hb); have n2_ := Aside0.mk (blk_below (g := gb299) (o := .cells #[.int .i64 t296, .string t297] 50 (0, 0)) (by (with_reducible repeat (first | refine blk_drewN ?_ _ | refine blk_drew ?_ | refine blk_alloc ?_ _)); exact BK299.out) hb); have n3_ := Aside0.mk (below_step (by repeat (first | (with_reducible first | exact HB.out | apply below_alloc | apply pw_below_drewN | apply below_drew1 | refine below_set ?_ GE295.out | refine below_set ?_ GE299.out) | exact HB.out)) hb); clear BK295; clear BK299; clear HB; have HO303 := n0_; have BK295 := n1_; have BK299 := n2_; have HB := n3_; clear n0_ n1_ n2_ n3_; (try clear hb); (try clear hb2); (try clear hk); (try clear hi); (try clear ho0)) | ((with_reducible refine gate_callee (f := 23) rfl ?_); refine goesL_ (some 77) rfl rfl Try.func23 (by kernel_rfl) rfl #[.string a0] rfl (by (try simp only [List.map_toArray, List.map_cons, List.map_nil]); first | done | rfl | (simp only [List.length_drop, List.length_take]; rfl)) ?_; (with_reducible refine (knapsackref07_All.calls kj6 a0 t304 false _ A58.out).mono ?_); rintro e w74 ⟨v306, rfl, ho0, hb⟩; refine ⟨_, rfl, ?_⟩; have n0_ := Aside0.mk (Kd.R_below (by (with_reducible repeat (first | apply Kd.R_alloc | apply Kd.R_drewN | apply Kd.R_drew)); exact HO303.out) hb); have n1_ := Aside0.mk (Kd.R_lower (Kd.R_newB ho0 (g := gb299) (o := .cells #[.int .i64 t296, .string t297] 50 (0, 0)) (by (with_reducible repeat (first | refine blk_drewN ?_ _ | refine blk_drew ?_ | refine blk_alloc ?_ _)); exact BK299.out)) (below_size (by repeat (first | (with_reducible first | exact HB.out | apply below_alloc | apply pw_below_drewN | apply below_drew1 | refine below_set ?_ GE295.out | refine below_set ?_ GE299.out) | exact HB.out)))); have n2_ := Aside0.mk (blk_below (g := gb295) (o := .cells #[.int .i64 t291, .string t292] 34 (0, 0)) (by (with_reducible repeat (first | refine blk_drewN ?_ _ | refine blk_drew ?_ | refine blk_alloc ?_ _)); exact BK295.out) hb); have n3_ := Aside0.mk (blk_below (g := gb299) (o := .cells #[.int .i64 t296, .string t297] 50 (0, 0)) (by (with_reducible repeat (first | refine blk_drewN ?_ _ | refine blk_drew ?_ | refine blk_alloc ?_ _)); exact BK299.out) hb); have n4_ := Aside0.mk (below_step (by repeat (first | (with_reducible first | exact HB.out | apply below_alloc | apply pw_below_drewN | apply below_drew1 | refine below_set ?_ GE295.out | refine below_set ?_ GE299.out) | exact HB.out)) hb); clear HO303; clear BK295; clear BK299; clear HB; have HO303 := n0_; have HO307 := n1_; have BK295 := n2_; have BK299 := n3_; have HB := n4_; clear n0_ n1_ n2_ n3_ n4_; (try clear hb); (try clear hb2); (try clear hk); (try clear hi); (try clear ho0); obtain ⟨Ao75, co75, eo75⟩ := Kd.R_slice HO303.out; subst eo75) | ((with_reducible refine gate_callee (f := 13) rfl ?_); refine goesL_ (some 81) rfl rfl Try.func13 (by kernel_rfl) rfl #[.slice Ao75 t300.length co75] rfl (by (try simp only [List.map_toArray, List.map_cons, List.map_nil]); first | done | rfl | (simp only [List.length_drop, List.length_take]; rfl)) ?_; (with_reducible refine (knapsacklaw07_As.calls kj6 _ _ t300 t308 _ ?side1 ?side2 A59.out).mono ?_); (case side1 => repeat (first | exact (Kd.R_reads' HO303.out).2.2 | (with_reducible refine Kd.C_alloc ?_ _) | (with_reducible refine Kd.C_drewN ?_ _) | (with_reducible refine Kd.C_drew ?_))); (case side2 => exact (Kd.R_reads' HO303.out).2.1); rintro e w76 ⟨v309, rfl, ho0, hb⟩; refine ⟨_, rfl, ?_⟩; have n0_ := Aside0.mk (Kd.R_below (by (with_reducible repeat (first | apply Kd.R_alloc | apply Kd.R_drewN | apply Kd.R_drew)); exact HO303.out) hb); have n1_ := Aside0.mk (Kd.R_elder' (by (with_reducible repeat (first | apply Kd.R_alloc | apply Kd.R_drewN | apply Kd.R_drew)); exact HO307.out) (Kd.R_base ho0) hb); have n2_ := Aside0.mk (Kd.R_lower (Kd.R_newB (Kd.R_new' ho0 (Kd.R_lt (by (with_reducible repeat (first | apply Kd.R_alloc | apply Kd.R_drewN | apply Kd.R_drew)); exact HO307.out))) (g := gb299) (o := .cells #[.int .i64 t296, .string t297] 50 (0, 0)) (by (with_reducible repeat (first | refine blk_drewN ?_ _ | refine blk_drew ?_ | refine blk_alloc ?_ _)); exact BK299.out)) (below_size (by repeat (first | (with_reducible first | exact HB.out | apply below_alloc | apply pw_below_drewN | apply below_drew1 | refine below_set ?_ GE295.out | refine below_set ?_ GE299.out) | exact HB.out)))); have n3_ := Aside0.mk (blk_below (g := gb295) (o := .cells #[.int .i64 t291, .string t292] 34 (0, 0)) (by (with_reducible repeat (first | refine blk_drewN ?_ _ | refine blk_drew ?_ | refine blk_alloc ?_ _)); exact BK295.out) hb); have n4_ := Aside0.mk (blk_below (g := gb299) (o := .cells #[.int .i64 t296, .string t297] 50 (0, 0)) (by (with_reducible repeat (first | refine blk_drewN ?_ _ | refine blk_drew ?_ | refine blk_alloc ?_ _)); exact BK299.out) hb); have n5_ := Aside0.mk (below_step (by repeat (first | (with_reducible first | exact HB.out | apply below_alloc | apply pw_below_drewN | apply below_drew1 | refine below_set ?_ GE295.out | refine below_set ?_ GE299.out) | exact HB.out)) hb); clear HO303; clear HO307; clear BK295; clear BK299; clear HB; have HO303 := n0_; have HO307 := n1_; have HO310 := n2_; have BK295 := n3_; have BK299 := n4_; have HB := n5_; clear n0_ n1_ n2_ n3_ n4_ n5_; (try clear hb); (try clear hb2); (try clear hk); (try clear hi); (try clear ho0); obtain ⟨Ao77, co77, eo77⟩ := Kd.R_slice HO310.out; subst eo77; obtain ⟨Ao78, co78, eo78⟩ := Kd.R_slice HO307.out; subst eo78) | ((with_reducible refine gate_callee (f := 12) rfl ?_); refine goesL_ (some 83) rfl rfl Try.func12 (by kernel_rfl) rfl #[.slice Ao77 t308.length co77, .slice Ao78 t304.length co78] rfl (by (try simp only [List.map_toArray, List.map_cons, List.map_nil]); first | done | rfl | (simp only [List.length_drop, List.length_take]; rfl)) ?_; (with_reducible refine (knapsacklaw07_Same.calls kj6 _ _ t308 _ _ t304 t311 _ ?side1 ?side2 ?side3 ?side4 A60.out).mono ?_); (case side1 => repeat (first | exact (Kd.R_reads' HO310.out).2.2 | (with_reducible refine Kd.C_alloc ?_ _) | (with_reducible refine Kd.C_drewN ?_ _) | (with_reducible refine Kd.C_drew ?_))); (case side2 => exact (Kd.R_reads' HO310.out).2.1); (case side3 => repeat (first | exact (Kd.R_reads' HO307.out).2.2 | (with_reducible refine Kd.C_alloc ?_ _) | (with_reducible refine Kd.C_drewN ?_ _) | (with_reducible refine Kd.C_drew ?_))); (case side4 => exact (Kd.R_reads' HO307.out).2.1); rintro e w' ⟨rfl, ⟨nd, rfl⟩⟩; refine ⟨_, rfl, ?_⟩) | ((with_reducible refine gate_callee (f := 17) rfl ?_); refine goesL_ (some 85) rfl rfl Try.func17 (by kernel_rfl) rfl #[] rfl (by (try simp only [List.map_toArray, List.map_cons, List.map_nil]); first | done | rfl | (simp only [List.length_drop, List.length_take]; rfl)) ?_; (with_reducible refine (knapsacklaw07_knows.calls kj6  true _ A61.out).mono ?_); rintro e w79 ⟨rfl, hb⟩; refine ⟨_, rfl, ?_⟩; have n0_ := Aside0.mk (Kd.R_below (by (with_reducible repeat (first | apply Kd.R_alloc | apply Kd.R_drewN | apply Kd.R_drew)); exact HO303.out) hb); have n1_ := Aside0.mk (Kd.R_below (by (with_reducible repeat (first | apply Kd.R_alloc | apply Kd.R_drewN | apply Kd.R_drew)); exact HO307.out) hb); have n2_ := Aside0.mk (Kd.R_below (by (with_reducible repeat (first | apply Kd.R_alloc | apply Kd.R_drewN | apply Kd.R_drew)); exact HO310.out) hb); have n3_ := Aside0.mk (blk_below (g := gb295) (o := .cells #[.int .i64 t291, .string t292] 34 (0, 0)) (by (with_reducible repeat (first | refine blk_drewN ?_ _ | refine blk_drew ?_ | refine blk_alloc ?_ _)); exact BK295.out) hb); have n4_ := Aside0.mk (blk_below (g := gb299) (o := .cells #[.int .i64 t296, .string t297] 50 (0, 0)) (by (with_reducible repeat (first | refine blk_drewN ?_ _ | refine blk_drew ?_ | refine blk_alloc ?_ _)); exact BK299.out) hb); have n5_ := Aside0.mk (below_step (by repeat (first | (with_reducible first | exact HB.out | apply below_alloc | apply pw_below_drewN | apply below_drew1 | refine below_set ?_ GE295.out | refine below_set ?_ GE299.out) | exact HB.out)) hb); clear HO303; clear HO307; clear HO310; clear BK295; clear BK299; clear HB; have HO303 := n0_; have HO307 := n1_; have HO310 := n2_; have BK295 := n3_; have BK299 := n4_; have HB := n5_; clear n0_ n1_ n2_ n3_ n4_ n5_; (try clear hb); (try clear hb2); (try clear hk); (try clear hi)))
                  go_ret
                  exact ⟨by first | rfl | (simp [errW_none, errW_some] <;> rfl) | (simp [*, errW_none, errW_some] <;> rfl), by repeat (first | (with_reducible first | exact HB.out | apply below_alloc | apply pw_below_drewN | apply below_drew1 | refine below_set ?_ GE295.out | refine below_set ?_ GE299.out) | exact HB.out)⟩
              · rw [if_neg c64] at H
                have c64b0 : ((t301 == 0) == t305) = false := by simpa using c64
                (try (have c64b1 : decide ((t301 == 0) = t305) = false := by simpa using c64))
                (try (have c64b2 : ((t301 == 0) == t305) = false := by simpa using c64))
                (try (have c64b3 : ¬ ((t301 == 0) = t305) := by simpa using c64))
                clear c64
                obtain rfl := Option.some.inj H
                go_wp2_with (first | ((with_reducible refine gate_callee (f := 22) rfl ?_); refine goesL_ (some 72) rfl rfl Try.func22 (by kernel_rfl) rfl #[.string a0] rfl (by (try simp only [List.map_toArray, List.map_cons, List.map_nil]); first | done | rfl | (simp only [List.length_drop, List.length_take]; rfl)) ?_; (with_reducible refine (pkt_All.calls kj6 a0 t300 t301 _ A57.out).mono ?_); rintro e w80 ⟨v302, rfl, ho0, hb⟩; refine ⟨_, rfl, ?_⟩; have n0_ := Aside0.mk (Kd.R_lower (Kd.R_newB ho0 (g := gb295) (o := .cells #[.int .i64 t291, .string t292] 34 (0, 0)) (by (with_reducible repeat (first | refine blk_drewN ?_ _ | refine blk_drew ?_ | refine blk_alloc ?_ _)); exact BK295.out)) (below_size (by repeat (first | (with_reducible first | exact HB.out | apply below_alloc | apply pw_below_drewN | apply below_drew1 | refine below_set ?_ GE295.out | refine below_set ?_ GE299.out) | exact HB.out)))); have n1_ := Aside0.mk (blk_below (g := gb295) (o := .cells #[.int .i64 t291, .string t292] 34 (0, 0)) (by (with_reducible repeat (first | refine blk_drewN ?_ _ | refine blk_drew ?_ | refine blk_alloc ?_ _)); exact BK295.out) hb); have n2_ := Aside0.mk (blk_below (g := gb299) (o := .cells #[.int .i64 t296, .string t297] 50 (0, 0)) (by (with_reducible repeat (first | refine blk_drewN ?_ _ | refine blk_drew ?_ | refine blk_alloc ?_ _)); exact BK299.out) hb); have n3_ := Aside0.mk (below_step (by repeat (first | (with_reducible first | exact HB.out | apply below_alloc | apply pw_below_drewN | apply below_drew1 | refine below_set ?_ GE295.out | refine below_set ?_ GE299.out) | exact HB.out)) hb); clear BK295; clear BK299; clear HB; have HO303 := n0_; have BK295 := n1_; have BK299 := n2_; have HB := n3_; clear n0_ n1_ n2_ n3_; (try clear hb); (try clear hb2); (try clear hk); (try clear hi); (try clear ho0)) | ((with_reducible refine gate_callee (f := 23) rfl ?_); refine goesL_ (some 77) rfl rfl Try.func23 (by kernel_rfl) rfl #[.string a0] rfl (by (try simp only [List.map_toArray, List.map_cons, List.map_nil]); first | done | rfl | (simp only [List.length_drop, List.length_take]; rfl)) ?_; (with_reducible refine (knapsackref07_All.calls kj6 a0 t304 t305 _ A58.out).mono ?_); rintro e w81 ⟨v306, rfl, ho0, hb⟩; refine ⟨_, rfl, ?_⟩; have n0_ := Aside0.mk (Kd.R_below (by (with_reducible repeat (first | apply Kd.R_alloc | apply Kd.R_drewN | apply Kd.R_drew)); exact HO303.out) hb); have n1_ := Aside0.mk (Kd.R_lower (Kd.R_newB ho0 (g := gb299) (o := .cells #[.int .i64 t296, .string t297] 50 (0, 0)) (by (with_reducible repeat (first | refine blk_drewN ?_ _ | refine blk_drew ?_ | refine blk_alloc ?_ _)); exact BK299.out)) (below_size (by repeat (first | (with_reducible first | exact HB.out | apply below_alloc | apply pw_below_drewN | apply below_drew1 | refine below_set ?_ GE295.out | refine below_set ?_ GE299.out) | exact HB.out)))); have n2_ := Aside0.mk (blk_below (g := gb295) (o := .cells #[.int .i64 t291, .string t292] 34 (0, 0)) (by (with_reducible repeat (first | refine blk_drewN ?_ _ | refine blk_drew ?_ | refine blk_alloc ?_ _)); exact BK295.out) hb); have n3_ := Aside0.mk (blk_below (g := gb299) (o := .cells #[.int .i64 t296, .string t297] 50 (0, 0)) (by (with_reducible repeat (first | refine blk_drewN ?_ _ | refine blk_drew ?_ | refine blk_alloc ?_ _)); exact BK299.out) hb); have n4_ := Aside0.mk (below_step (by repeat (first | (with_reducible first | exact HB.out | apply below_alloc | apply pw_below_drewN | apply below_drew1 | refine below_set ?_ GE295.out | refine below_set ?_ GE299.out) | exact HB.out)) hb); clear HO303; clear BK295; clear BK299; clear HB; have HO303 := n0_; have HO307 := n1_; have BK295 := n2_; have BK299 := n3_; have HB := n4_; clear n0_ n1_ n2_ n3_ n4_; (try clear hb); (try clear hb2); (try clear hk); (try clear hi); (try clear ho0); obtain ⟨Ao82, co82, eo82⟩ := Kd.R_slice HO303.out; subst eo82) | ((with_reducible refine gate_callee (f := 13) rfl ?_); refine goesL_ (some 81) rfl rfl Try.func13 (by kernel_rfl) rfl #[.slice Ao82 t300.length co82] rfl (by (try simp only [List.map_toArray, List.map_cons, List.map_nil]); first | done | rfl | (simp only [List.length_drop, List.length_take]; rfl)) ?_; (with_reducible refine (knapsacklaw07_As.calls kj6 _ _ t300 t308 _ ?side1 ?side2 A59.out).mono ?_); (case side1 => repeat (first | exact (Kd.R_reads' HO303.out).2.2 | (with_reducible refine Kd.C_alloc ?_ _) | (with_reducible refine Kd.C_drewN ?_ _) | (with_reducible refine Kd.C_drew ?_))); (case side2 => exact (Kd.R_reads' HO303.out).2.1); rintro e w83 ⟨v309, rfl, ho0, hb⟩; refine ⟨_, rfl, ?_⟩; have n0_ := Aside0.mk (Kd.R_below (by (with_reducible repeat (first | apply Kd.R_alloc | apply Kd.R_drewN | apply Kd.R_drew)); exact HO303.out) hb); have n1_ := Aside0.mk (Kd.R_elder' (by (with_reducible repeat (first | apply Kd.R_alloc | apply Kd.R_drewN | apply Kd.R_drew)); exact HO307.out) (Kd.R_base ho0) hb); have n2_ := Aside0.mk (Kd.R_lower (Kd.R_newB (Kd.R_new' ho0 (Kd.R_lt (by (with_reducible repeat (first | apply Kd.R_alloc | apply Kd.R_drewN | apply Kd.R_drew)); exact HO307.out))) (g := gb299) (o := .cells #[.int .i64 t296, .string t297] 50 (0, 0)) (by (with_reducible repeat (first | refine blk_drewN ?_ _ | refine blk_drew ?_ | refine blk_alloc ?_ _)); exact BK299.out)) (below_size (by repeat (first | (with_reducible first | exact HB.out | apply below_alloc | apply pw_below_drewN | apply below_drew1 | refine below_set ?_ GE295.out | refine below_set ?_ GE299.out) | exact HB.out)))); have n3_ := Aside0.mk (blk_below (g := gb295) (o := .cells #[.int .i64 t291, .string t292] 34 (0, 0)) (by (with_reducible repeat (first | refine blk_drewN ?_ _ | refine blk_drew ?_ | refine blk_alloc ?_ _)); exact BK295.out) hb); have n4_ := Aside0.mk (blk_below (g := gb299) (o := .cells #[.int .i64 t296, .string t297] 50 (0, 0)) (by (with_reducible repeat (first | refine blk_drewN ?_ _ | refine blk_drew ?_ | refine blk_alloc ?_ _)); exact BK299.out) hb); have n5_ := Aside0.mk (below_step (by repeat (first | (with_reducible first | exact HB.out | apply below_alloc | apply pw_below_drewN | apply below_drew1 | refine below_set ?_ GE295.out | refine below_set ?_ GE299.out) | exact HB.out)) hb); clear HO303; clear HO307; clear BK295; clear BK299; clear HB; have HO303 := n0_; have HO307 := n1_; have HO310 := n2_; have BK295 := n3_; have BK299 := n4_; have HB := n5_; clear n0_ n1_ n2_ n3_ n4_ n5_; (try clear hb); (try clear hb2); (try clear hk); (try clear hi); (try clear ho0); obtain ⟨Ao84, co84, eo84⟩ := Kd.R_slice HO310.out; subst eo84; obtain ⟨Ao85, co85, eo85⟩ := Kd.R_slice HO307.out; subst eo85) | ((with_reducible refine gate_callee (f := 12) rfl ?_); refine goesL_ (some 83) rfl rfl Try.func12 (by kernel_rfl) rfl #[.slice Ao84 t308.length co84, .slice Ao85 t304.length co85] rfl (by (try simp only [List.map_toArray, List.map_cons, List.map_nil]); first | done | rfl | (simp only [List.length_drop, List.length_take]; rfl)) ?_; (with_reducible refine (knapsacklaw07_Same.calls kj6 _ _ t308 _ _ t304 t311 _ ?side1 ?side2 ?side3 ?side4 A60.out).mono ?_); (case side1 => repeat (first | exact (Kd.R_reads' HO310.out).2.2 | (with_reducible refine Kd.C_alloc ?_ _) | (with_reducible refine Kd.C_drewN ?_ _) | (with_reducible refine Kd.C_drew ?_))); (case side2 => exact (Kd.R_reads' HO310.out).2.1); (case side3 => repeat (first | exact (Kd.R_reads' HO307.out).2.2 | (with_reducible refine Kd.C_alloc ?_ _) | (with_reducible refine Kd.C_drewN ?_ _) | (with_reducible refine Kd.C_drew ?_))); (case side4 => exact (Kd.R_reads' HO307.out).2.1); rintro e w' ⟨rfl, ⟨nd, rfl⟩⟩; refine ⟨_, rfl, ?_⟩) | ((with_reducible refine gate_callee (f := 17) rfl ?_); refine goesL_ (some 85) rfl rfl Try.func17 (by kernel_rfl) rfl #[] rfl (by (try simp only [List.map_toArray, List.map_cons, List.map_nil]); first | done | rfl | (simp only [List.length_drop, List.length_take]; rfl)) ?_; (with_reducible refine (knapsacklaw07_knows.calls kj6  true _ A61.out).mono ?_); rintro e w86 ⟨rfl, hb⟩; refine ⟨_, rfl, ?_⟩; have n0_ := Aside0.mk (Kd.R_below (by (with_reducible repeat (first | apply Kd.R_alloc | apply Kd.R_drewN | apply Kd.R_drew)); exact HO303.out) hb); have n1_ := Aside0.mk (Kd.R_below (by (with_reducible repeat (first | apply Kd.R_alloc | apply Kd.R_drewN | apply Kd.R_drew)); exact HO307.out) hb); have n2_ := Aside0.mk (Kd.R_below (by (with_reducible repeat (first | apply Kd.R_alloc | apply Kd.R_drewN | apply Kd.R_drew)); exact HO310.out) hb); have n3_ := Aside0.mk (blk_below (g := gb295) (o := .cells #[.int .i64 t291, .string t292] 34 (0, 0)) (by (with_reducible repeat (first | refine blk_drewN ?_ _ | refine blk_drew ?_ | refine blk_alloc ?_ _)); exact BK295.out) hb); have n4_ := Aside0.mk (blk_below (g := gb299) (o := .cells #[.int .i64 t296, .string t297] 50 (0, 0)) (by (with_reducible repeat (first | refine blk_drewN ?_ _ | refine blk_drew ?_ | refine blk_alloc ?_ _)); exact BK299.out) hb); have n5_ := Aside0.mk (below_step (by repeat (first | (with_reducible first | exact HB.out | apply below_alloc | apply pw_below_drewN | apply below_drew1 | refine below_set ?_ GE295.out | refine below_set ?_ GE299.out) | exact HB.out)) hb); clear HO303; clear HO307; clear HO310; clear BK295; clear BK299; clear HB; have HO303 := n0_; have HO307 := n1_; have HO310 := n2_; have BK295 := n3_; have BK299 := n4_; have HB := n5_; clear n0_ n1_ n2_ n3_ n4_ n5_; (try clear hb); (try clear hb2); (try clear hk); (try clear hi)))
                go_ret
                exact ⟨by first | rfl | (simp [errW_none, errW_some] <;> rfl) | (simp [*, errW_none, errW_some] <;> rfl), by repeat (first | (with_reducible first | exact HB.out | apply below_alloc | apply pw_below_drewN | apply below_drew1 | refine below_set ?_ GE295.out | refine below_set ?_ GE299.out) | exact HB.out)⟩
            · rw [if_neg c63] at H
              have c63b0 : (t311 == 1) = false := beq_eq_false_iff_ne.mpr c63
              have c63b1 : (t311 != 1) = true := bne_iff_ne.mpr c63
              obtain rfl := Option.some.inj H
              go_wp2_with (first | ((with_reducible refine gate_callee (f := 22) rfl ?_); refine goesL_ (some 72) rfl rfl Try.func22 (by kernel_rfl) rfl #[.string a0] rfl (by (try simp only [List.map_toArray, List.map_cons, List.map_nil]); first | done | rfl | (simp only [List.length_drop, List.length_take]; rfl)) ?_; (with_reducible refine (pkt_All.calls kj6 a0 t300 t301 _ A57.out).mono ?_); rintro e w87 ⟨v302, rfl, ho0, hb⟩; refine ⟨_, rfl, ?_⟩; have n0_ := Aside0.mk (Kd.R_lower (Kd.R_newB ho0 (g := gb295) (o := .cells #[.int .i64 t291, .string t292] 34 (0, 0)) (by (with_reducible repeat (first | refine blk_drewN ?_ _ | refine blk_drew ?_ | refine blk_alloc ?_ _)); exact BK295.out)) (below_size (by repeat (first | (with_reducible first | exact HB.out | apply below_alloc | apply pw_below_drewN | apply below_drew1 | refine below_set ?_ GE295.out | refine below_set ?_ GE299.out) | exact HB.out)))); have n1_ := Aside0.mk (blk_below (g := gb295) (o := .cells #[.int .i64 t291, .string t292] 34 (0, 0)) (by (with_reducible repeat (first | refine blk_drewN ?_ _ | refine blk_drew ?_ | refine blk_alloc ?_ _)); exact BK295.out) hb); have n2_ := Aside0.mk (blk_below (g := gb299) (o := .cells #[.int .i64 t296, .string t297] 50 (0, 0)) (by (with_reducible repeat (first | refine blk_drewN ?_ _ | refine blk_drew ?_ | refine blk_alloc ?_ _)); exact BK299.out) hb); have n3_ := Aside0.mk (below_step (by repeat (first | (with_reducible first | exact HB.out | apply below_alloc | apply pw_below_drewN | apply below_drew1 | refine below_set ?_ GE295.out | refine below_set ?_ GE299.out) | exact HB.out)) hb); clear BK295; clear BK299; clear HB; have HO303 := n0_; have BK295 := n1_; have BK299 := n2_; have HB := n3_; clear n0_ n1_ n2_ n3_; (try clear hb); (try clear hb2); (try clear hk); (try clear hi); (try clear ho0)) | ((with_reducible refine gate_callee (f := 23) rfl ?_); refine goesL_ (some 77) rfl rfl Try.func23 (by kernel_rfl) rfl #[.string a0] rfl (by (try simp only [List.map_toArray, List.map_cons, List.map_nil]); first | done | rfl | (simp only [List.length_drop, List.length_take]; rfl)) ?_; (with_reducible refine (knapsackref07_All.calls kj6 a0 t304 t305 _ A58.out).mono ?_); rintro e w88 ⟨v306, rfl, ho0, hb⟩; refine ⟨_, rfl, ?_⟩; have n0_ := Aside0.mk (Kd.R_below (by (with_reducible repeat (first | apply Kd.R_alloc | apply Kd.R_drewN | apply Kd.R_drew)); exact HO303.out) hb); have n1_ := Aside0.mk (Kd.R_lower (Kd.R_newB ho0 (g := gb299) (o := .cells #[.int .i64 t296, .string t297] 50 (0, 0)) (by (with_reducible repeat (first | refine blk_drewN ?_ _ | refine blk_drew ?_ | refine blk_alloc ?_ _)); exact BK299.out)) (below_size (by repeat (first | (with_reducible first | exact HB.out | apply below_alloc | apply pw_below_drewN | apply below_drew1 | refine below_set ?_ GE295.out | refine below_set ?_ GE299.out) | exact HB.out)))); have n2_ := Aside0.mk (blk_below (g := gb295) (o := .cells #[.int .i64 t291, .string t292] 34 (0, 0)) (by (with_reducible repeat (first | refine blk_drewN ?_ _ | refine blk_drew ?_ | refine blk_alloc ?_ _)); exact BK295.out) hb); have n3_ := Aside0.mk (blk_below (g := gb299) (o := .cells #[.int .i64 t296, .string t297] 50 (0, 0)) (by (with_reducible repeat (first | refine blk_drewN ?_ _ | refine blk_drew ?_ | refine blk_alloc ?_ _)); exact BK299.out) hb); have n4_ := Aside0.mk (below_step (by repeat (first | (with_reducible first | exact HB.out | apply below_alloc | apply pw_below_drewN | apply below_drew1 | refine below_set ?_ GE295.out | refine below_set ?_ GE299.out) | exact HB.out)) hb); clear HO303; clear BK295; clear BK299; clear HB; have HO303 := n0_; have HO307 := n1_; have BK295 := n2_; have BK299 := n3_; have HB := n4_; clear n0_ n1_ n2_ n3_ n4_; (try clear hb); (try clear hb2); (try clear hk); (try clear hi); (try clear ho0); obtain ⟨Ao89, co89, eo89⟩ := Kd.R_slice HO303.out; subst eo89) | ((with_reducible refine gate_callee (f := 13) rfl ?_); refine goesL_ (some 81) rfl rfl Try.func13 (by kernel_rfl) rfl #[.slice Ao89 t300.length co89] rfl (by (try simp only [List.map_toArray, List.map_cons, List.map_nil]); first | done | rfl | (simp only [List.length_drop, List.length_take]; rfl)) ?_; (with_reducible refine (knapsacklaw07_As.calls kj6 _ _ t300 t308 _ ?side1 ?side2 A59.out).mono ?_); (case side1 => repeat (first | exact (Kd.R_reads' HO303.out).2.2 | (with_reducible refine Kd.C_alloc ?_ _) | (with_reducible refine Kd.C_drewN ?_ _) | (with_reducible refine Kd.C_drew ?_))); (case side2 => exact (Kd.R_reads' HO303.out).2.1); rintro e w90 ⟨v309, rfl, ho0, hb⟩; refine ⟨_, rfl, ?_⟩; have n0_ := Aside0.mk (Kd.R_below (by (with_reducible repeat (first | apply Kd.R_alloc | apply Kd.R_drewN | apply Kd.R_drew)); exact HO303.out) hb); have n1_ := Aside0.mk (Kd.R_elder' (by (with_reducible repeat (first | apply Kd.R_alloc | apply Kd.R_drewN | apply Kd.R_drew)); exact HO307.out) (Kd.R_base ho0) hb); have n2_ := Aside0.mk (Kd.R_lower (Kd.R_newB (Kd.R_new' ho0 (Kd.R_lt (by (with_reducible repeat (first | apply Kd.R_alloc | apply Kd.R_drewN | apply Kd.R_drew)); exact HO307.out))) (g := gb299) (o := .cells #[.int .i64 t296, .string t297] 50 (0, 0)) (by (with_reducible repeat (first | refine blk_drewN ?_ _ | refine blk_drew ?_ | refine blk_alloc ?_ _)); exact BK299.out)) (below_size (by repeat (first | (with_reducible first | exact HB.out | apply below_alloc | apply pw_below_drewN | apply below_drew1 | refine below_set ?_ GE295.out | refine below_set ?_ GE299.out) | exact HB.out)))); have n3_ := Aside0.mk (blk_below (g := gb295) (o := .cells #[.int .i64 t291, .string t292] 34 (0, 0)) (by (with_reducible repeat (first | refine blk_drewN ?_ _ | refine blk_drew ?_ | refine blk_alloc ?_ _)); exact BK295.out) hb); have n4_ := Aside0.mk (blk_below (g := gb299) (o := .cells #[.int .i64 t296, .string t297] 50 (0, 0)) (by (with_reducible repeat (first | refine blk_drewN ?_ _ | refine blk_drew ?_ | refine blk_alloc ?_ _)); exact BK299.out) hb); have n5_ := Aside0.mk (below_step (by repeat (first | (with_reducible first | exact HB.out | apply below_alloc | apply pw_below_drewN | apply below_drew1 | refine below_set ?_ GE295.out | refine below_set ?_ GE299.out) | exact HB.out)) hb); clear HO303; clear HO307; clear BK295; clear BK299; clear HB; have HO303 := n0_; have HO307 := n1_; have HO310 := n2_; have BK295 := n3_; have BK299 := n4_; have HB := n5_; clear n0_ n1_ n2_ n3_ n4_ n5_; (try clear hb); (try clear hb2); (try clear hk); (try clear hi); (try clear ho0); obtain ⟨Ao91, co91, eo91⟩ := Kd.R_slice HO310.out; subst eo91; obtain ⟨Ao92, co92, eo92⟩ := Kd.R_slice HO307.out; subst eo92) | ((with_reducible refine gate_callee (f := 12) rfl ?_); refine goesL_ (some 83) rfl rfl Try.func12 (by kernel_rfl) rfl #[.slice Ao91 t308.length co91, .slice Ao92 t304.length co92] rfl (by (try simp only [List.map_toArray, List.map_cons, List.map_nil]); first | done | rfl | (simp only [List.length_drop, List.length_take]; rfl)) ?_; (with_reducible refine (knapsacklaw07_Same.calls kj6 _ _ t308 _ _ t304 t311 _ ?side1 ?side2 ?side3 ?side4 A60.out).mono ?_); (case side1 => repeat (first | exact (Kd.R_reads' HO310.out).2.2 | (with_reducible refine Kd.C_alloc ?_ _) | (with_reducible refine Kd.C_drewN ?_ _) | (with_reducible refine Kd.C_drew ?_))); (case side2 => exact (Kd.R_reads' HO310.out).2.1); (case side3 => repeat (first | exact (Kd.R_reads' HO307.out).2.2 | (with_reducible refine Kd.C_alloc ?_ _) | (with_reducible refine Kd.C_drewN ?_ _) | (with_reducible refine Kd.C_drew ?_))); (case side4 => exact (Kd.R_reads' HO307.out).2.1); rintro e w' ⟨rfl, ⟨nd, rfl⟩⟩; refine ⟨_, rfl, ?_⟩) | ((with_reducible refine gate_callee (f := 17) rfl ?_); refine goesL_ (some 85) rfl rfl Try.func17 (by kernel_rfl) rfl #[] rfl (by (try simp only [List.map_toArray, List.map_cons, List.map_nil]); first | done | rfl | (simp only [List.length_drop, List.length_take]; rfl)) ?_; (with_reducible refine (knapsacklaw07_knows.calls kj6  true _ A61.out).mono ?_); rintro e w93 ⟨rfl, hb⟩; refine ⟨_, rfl, ?_⟩; have n0_ := Aside0.mk (Kd.R_below (by (with_reducible repeat (first | apply Kd.R_alloc | apply Kd.R_drewN | apply Kd.R_drew)); exact HO303.out) hb); have n1_ := Aside0.mk (Kd.R_below (by (with_reducible repeat (first | apply Kd.R_alloc | apply Kd.R_drewN | apply Kd.R_drew)); exact HO307.out) hb); have n2_ := Aside0.mk (Kd.R_below (by (with_reducible repeat (first | apply Kd.R_alloc | apply Kd.R_drewN | apply Kd.R_drew)); exact HO310.out) hb); have n3_ := Aside0.mk (blk_below (g := gb295) (o := .cells #[.int .i64 t291, .string t292] 34 (0, 0)) (by (with_reducible repeat (first | refine blk_drewN ?_ _ | refine blk_drew ?_ | refine blk_alloc ?_ _)); exact BK295.out) hb); have n4_ := Aside0.mk (blk_below (g := gb299) (o := .cells #[.int .i64 t296, .string t297] 50 (0, 0)) (by (with_reducible repeat (first | refine blk_drewN ?_ _ | refine blk_drew ?_ | refine blk_alloc ?_ _)); exact BK299.out) hb); have n5_ := Aside0.mk (below_step (by repeat (first | (with_reducible first | exact HB.out | apply below_alloc | apply pw_below_drewN | apply below_drew1 | refine below_set ?_ GE295.out | refine below_set ?_ GE299.out) | exact HB.out)) hb); clear HO303; clear HO307; clear HO310; clear BK295; clear BK299; clear HB; have HO303 := n0_; have HO307 := n1_; have HO310 := n2_; have BK295 := n3_; have BK299 := n4_; have HB := n5_; clear n0_ n1_ n2_ n3_ n4_ n5_; (try clear hb); (try clear hb2); (try clear hk); (try clear hi)))
              go_ret
              exact ⟨by first | rfl | (simp [errW_none, errW_some] <;> rfl) | (simp [*, errW_none, errW_some] <;> rfl), by repeat (first | (with_reducible first | exact HB.out | apply below_alloc | apply pw_below_drewN | apply below_drew1 | refine below_set ?_ GE295.out | refine below_set ?_ GE299.out) | exact HB.out)⟩
          · replace c62 := Bool.eq_false_iff.mpr c62
            subst c62
            have H1 : (some false) = some r := by rw [if_neg (show ¬ (false = true) by decide)] at H; exact H
            clear H
            have H := H1
            clear H1
            obtain rfl := Option.some.inj H
            go_wp2_with (first | ((with_reducible refine gate_callee (f := 22) rfl ?_); refine goesL_ (some 72) rfl rfl Try.func22 (by kernel_rfl) rfl #[.string a0] rfl (by (try simp only [List.map_toArray, List.map_cons, List.map_nil]); first | done | rfl | (simp only [List.length_drop, List.length_take]; rfl)) ?_; (with_reducible refine (pkt_All.calls kj6 a0 t300 t301 _ A57.out).mono ?_); rintro e w94 ⟨v302, rfl, ho0, hb⟩; refine ⟨_, rfl, ?_⟩; have n0_ := Aside0.mk (Kd.R_lower (Kd.R_newB ho0 (g := gb295) (o := .cells #[.int .i64 t291, .string t292] 34 (0, 0)) (by (with_reducible repeat (first | refine blk_drewN ?_ _ | refine blk_drew ?_ | refine blk_alloc ?_ _)); exact BK295.out)) (below_size (by repeat (first | (with_reducible first | exact HB.out | apply below_alloc | apply pw_below_drewN | apply below_drew1 | refine below_set ?_ GE295.out | refine below_set ?_ GE299.out) | exact HB.out)))); have n1_ := Aside0.mk (blk_below (g := gb295) (o := .cells #[.int .i64 t291, .string t292] 34 (0, 0)) (by (with_reducible repeat (first | refine blk_drewN ?_ _ | refine blk_drew ?_ | refine blk_alloc ?_ _)); exact BK295.out) hb); have n2_ := Aside0.mk (blk_below (g := gb299) (o := .cells #[.int .i64 t296, .string t297] 50 (0, 0)) (by (with_reducible repeat (first | refine blk_drewN ?_ _ | refine blk_drew ?_ | refine blk_alloc ?_ _)); exact BK299.out) hb); have n3_ := Aside0.mk (below_step (by repeat (first | (with_reducible first | exact HB.out | apply below_alloc | apply pw_below_drewN | apply below_drew1 | refine below_set ?_ GE295.out | refine below_set ?_ GE299.out) | exact HB.out)) hb); clear BK295; clear BK299; clear HB; have HO303 := n0_; have BK295 := n1_; have BK299 := n2_; have HB := n3_; clear n0_ n1_ n2_ n3_; (try clear hb); (try clear hb2); (try clear hk); (try clear hi); (try clear ho0)) | ((with_reducible refine gate_callee (f := 23) rfl ?_); refine goesL_ (some 77) rfl rfl Try.func23 (by kernel_rfl) rfl #[.string a0] rfl (by (try simp only [List.map_toArray, List.map_cons, List.map_nil]); first | done | rfl | (simp only [List.length_drop, List.length_take]; rfl)) ?_; (with_reducible refine (knapsackref07_All.calls kj6 a0 t304 t305 _ A58.out).mono ?_); rintro e w95 ⟨v306, rfl, ho0, hb⟩; refine ⟨_, rfl, ?_⟩; have n0_ := Aside0.mk (Kd.R_below (by (with_reducible repeat (first | apply Kd.R_alloc | apply Kd.R_drewN | apply Kd.R_drew)); exact HO303.out) hb); have n1_ := Aside0.mk (Kd.R_lower (Kd.R_newB ho0 (g := gb299) (o := .cells #[.int .i64 t296, .string t297] 50 (0, 0)) (by (with_reducible repeat (first | refine blk_drewN ?_ _ | refine blk_drew ?_ | refine blk_alloc ?_ _)); exact BK299.out)) (below_size (by repeat (first | (with_reducible first | exact HB.out | apply below_alloc | apply pw_below_drewN | apply below_drew1 | refine below_set ?_ GE295.out | refine below_set ?_ GE299.out) | exact HB.out)))); have n2_ := Aside0.mk (blk_below (g := gb295) (o := .cells #[.int .i64 t291, .string t292] 34 (0, 0)) (by (with_reducible repeat (first | refine blk_drewN ?_ _ | refine blk_drew ?_ | refine blk_alloc ?_ _)); exact BK295.out) hb); have n3_ := Aside0.mk (blk_below (g := gb299) (o := .cells #[.int .i64 t296, .string t297] 50 (0, 0)) (by (with_reducible repeat (first | refine blk_drewN ?_ _ | refine blk_drew ?_ | refine blk_alloc ?_ _)); exact BK299.out) hb); have n4_ := Aside0.mk (below_step (by repeat (first | (with_reducible first | exact HB.out | apply below_alloc | apply pw_below_drewN | apply below_drew1 | refine below_set ?_ GE295.out | refine below_set ?_ GE299.out) | exact HB.out)) hb); clear HO303; clear BK295; clear BK299; clear HB; have HO303 := n0_; have HO307 := n1_; have BK295 := n2_; have BK299 := n3_; have HB := n4_; clear n0_ n1_ n2_ n3_ n4_; (try clear hb); (try clear hb2); (try clear hk); (try clear hi); (try clear ho0); obtain ⟨Ao96, co96, eo96⟩ := Kd.R_slice HO303.out; subst eo96) | ((with_reducible refine gate_callee (f := 13) rfl ?_); refine goesL_ (some 81) rfl rfl Try.func13 (by kernel_rfl) rfl #[.slice Ao96 t300.length co96] rfl (by (try simp only [List.map_toArray, List.map_cons, List.map_nil]); first | done | rfl | (simp only [List.length_drop, List.length_take]; rfl)) ?_; (with_reducible refine (knapsacklaw07_As.calls kj6 _ _ t300 t308 _ ?side1 ?side2 A59.out).mono ?_); (case side1 => repeat (first | exact (Kd.R_reads' HO303.out).2.2 | (with_reducible refine Kd.C_alloc ?_ _) | (with_reducible refine Kd.C_drewN ?_ _) | (with_reducible refine Kd.C_drew ?_))); (case side2 => exact (Kd.R_reads' HO303.out).2.1); rintro e w97 ⟨v309, rfl, ho0, hb⟩; refine ⟨_, rfl, ?_⟩; have n0_ := Aside0.mk (Kd.R_below (by (with_reducible repeat (first | apply Kd.R_alloc | apply Kd.R_drewN | apply Kd.R_drew)); exact HO303.out) hb); have n1_ := Aside0.mk (Kd.R_elder' (by (with_reducible repeat (first | apply Kd.R_alloc | apply Kd.R_drewN | apply Kd.R_drew)); exact HO307.out) (Kd.R_base ho0) hb); have n2_ := Aside0.mk (Kd.R_lower (Kd.R_newB (Kd.R_new' ho0 (Kd.R_lt (by (with_reducible repeat (first | apply Kd.R_alloc | apply Kd.R_drewN | apply Kd.R_drew)); exact HO307.out))) (g := gb299) (o := .cells #[.int .i64 t296, .string t297] 50 (0, 0)) (by (with_reducible repeat (first | refine blk_drewN ?_ _ | refine blk_drew ?_ | refine blk_alloc ?_ _)); exact BK299.out)) (below_size (by repeat (first | (with_reducible first | exact HB.out | apply below_alloc | apply pw_below_drewN | apply below_drew1 | refine below_set ?_ GE295.out | refine below_set ?_ GE299.out) | exact HB.out)))); have n3_ := Aside0.mk (blk_below (g := gb295) (o := .cells #[.int .i64 t291, .string t292] 34 (0, 0)) (by (with_reducible repeat (first | refine blk_drewN ?_ _ | refine blk_drew ?_ | refine blk_alloc ?_ _)); exact BK295.out) hb); have n4_ := Aside0.mk (blk_below (g := gb299) (o := .cells #[.int .i64 t296, .string t297] 50 (0, 0)) (by (with_reducible repeat (first | refine blk_drewN ?_ _ | refine blk_drew ?_ | refine blk_alloc ?_ _)); exact BK299.out) hb); have n5_ := Aside0.mk (below_step (by repeat (first | (with_reducible first | exact HB.out | apply below_alloc | apply pw_below_drewN | apply below_drew1 | refine below_set ?_ GE295.out | refine below_set ?_ GE299.out) | exact HB.out)) hb); clear HO303; clear HO307; clear BK295; clear BK299; clear HB; have HO303 := n0_; have HO307 := n1_; have HO310 := n2_; have BK295 := n3_; have BK299 := n4_; have HB := n5_; clear n0_ n1_ n2_ n3_ n4_ n5_; (try clear hb); (try clear hb2); (try clear hk); (try clear hi); (try clear ho0); obtain ⟨Ao98, co98, eo98⟩ := Kd.R_slice HO310.out; subst eo98; obtain ⟨Ao99, co99, eo99⟩ := Kd.R_slice HO307.out; subst eo99) | ((with_reducible refine gate_callee (f := 12) rfl ?_); refine goesL_ (some 83) rfl rfl Try.func12 (by kernel_rfl) rfl #[.slice Ao98 t308.length co98, .slice Ao99 t304.length co99] rfl (by (try simp only [List.map_toArray, List.map_cons, List.map_nil]); first | done | rfl | (simp only [List.length_drop, List.length_take]; rfl)) ?_; (with_reducible refine (knapsacklaw07_Same.calls kj6 _ _ t308 _ _ t304 t311 _ ?side1 ?side2 ?side3 ?side4 A60.out).mono ?_); (case side1 => repeat (first | exact (Kd.R_reads' HO310.out).2.2 | (with_reducible refine Kd.C_alloc ?_ _) | (with_reducible refine Kd.C_drewN ?_ _) | (with_reducible refine Kd.C_drew ?_))); (case side2 => exact (Kd.R_reads' HO310.out).2.1); (case side3 => repeat (first | exact (Kd.R_reads' HO307.out).2.2 | (with_reducible refine Kd.C_alloc ?_ _) | (with_reducible refine Kd.C_drewN ?_ _) | (with_reducible refine Kd.C_drew ?_))); (case side4 => exact (Kd.R_reads' HO307.out).2.1); rintro e w' ⟨rfl, ⟨nd, rfl⟩⟩; refine ⟨_, rfl, ?_⟩) | ((with_reducible refine gate_callee (f := 17) rfl ?_); refine goesL_ (some 85) rfl rfl Try.func17 (by kernel_rfl) rfl #[] rfl (by (try simp only [List.map_toArray, List.map_cons, List.map_nil]); first | done | rfl | (simp only [List.length_drop, List.length_take]; rfl)) ?_; (with_reducible refine (knapsacklaw07_knows.calls kj6  false _ A61.out).mono ?_); rintro e w100 ⟨rfl, hb⟩; refine ⟨_, rfl, ?_⟩; have n0_ := Aside0.mk (Kd.R_below (by (with_reducible repeat (first | apply Kd.R_alloc | apply Kd.R_drewN | apply Kd.R_drew)); exact HO303.out) hb); have n1_ := Aside0.mk (Kd.R_below (by (with_reducible repeat (first | apply Kd.R_alloc | apply Kd.R_drewN | apply Kd.R_drew)); exact HO307.out) hb); have n2_ := Aside0.mk (Kd.R_below (by (with_reducible repeat (first | apply Kd.R_alloc | apply Kd.R_drewN | apply Kd.R_drew)); exact HO310.out) hb); have n3_ := Aside0.mk (blk_below (g := gb295) (o := .cells #[.int .i64 t291, .string t292] 34 (0, 0)) (by (with_reducible repeat (first | refine blk_drewN ?_ _ | refine blk_drew ?_ | refine blk_alloc ?_ _)); exact BK295.out) hb); have n4_ := Aside0.mk (blk_below (g := gb299) (o := .cells #[.int .i64 t296, .string t297] 50 (0, 0)) (by (with_reducible repeat (first | refine blk_drewN ?_ _ | refine blk_drew ?_ | refine blk_alloc ?_ _)); exact BK299.out) hb); have n5_ := Aside0.mk (below_step (by repeat (first | (with_reducible first | exact HB.out | apply below_alloc | apply pw_below_drewN | apply below_drew1 | refine below_set ?_ GE295.out | refine below_set ?_ GE299.out) | exact HB.out)) hb); clear HO303; clear HO307; clear HO310; clear BK295; clear BK299; clear HB; have HO303 := n0_; have HO307 := n1_; have HO310 := n2_; have BK295 := n3_; have BK299 := n4_; have HB := n5_; clear n0_ n1_ n2_ n3_ n4_ n5_; (try clear hb); (try clear hb2); (try clear hk); (try clear hi)))
            go_ret
            exact ⟨by first | rfl | (simp [errW_none, errW_some] <;> rfl) | (simp [*, errW_none, errW_some] <;> rfl), by repeat (first | (with_reducible first | exact HB.out | apply below_alloc | apply pw_below_drewN | apply below_drew1 | refine below_set ?_ GE295.out | refine below_set ?_ GE299.out) | exact HB.out)⟩

/-- THE ONE PURE STATEMENT of knapsacklaw07_PktGets: yours. -/
def knapsacklaw07_PktGets.Pure : Prop := ∀ (a0 : ByteArray), a0.size ≤ 140737488351232 → ∃ k, knapsacklaw07_PktGets.f k a0 = some true
theorem knapsacklaw07_PktGets.walk (P : knapsacklaw07_PktGets.Pure) (a0 : ByteArray) (w : World) (w0 : a0.size ≤ 140737488351232) :
    Calls Try.prog 7 #[.string a0] w fun e w' => e = .returned (.bool true) ∧ Below w.heap.size w w' := by
  obtain ⟨k, h⟩ := P a0 w0
  refine (knapsacklaw07_PktGets.calls k a0 true w h).mono ?_
  rintro e w' ⟨rfl, hd⟩
  exact ⟨rfl, hd⟩

end Go.Proofs.Ytkhbapchkfmocaa.PA
