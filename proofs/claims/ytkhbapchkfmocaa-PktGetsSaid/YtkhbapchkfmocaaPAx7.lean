-- Written by a turned copy of the printer (wip/patchprint.py of this repo), with contracts of this session beside; Lean checks it.
import Derived.Test.YtkhbapchkfmocaaPAx0
import Derived.Test.YtkhbapchkfmocaaPAx6
namespace Go.Proofs.Ytkhbapchkfmocaa.PA
open Go.RowKit Go.Proofs.YtkhbapchkfmocaaW.PrintWords Go.Proofs.YtkhbapchkfmocaaW.PrintLast Go.Proofs.YtkhbapchkfmocaaW.PrintMore
attribute [local go_sem] max2_int min2_int max_two min_two max_three min_three max_four min_four   -- for this text's walks alone
set_option linter.unusedVariables false
set_option linter.unusedSimpArgs false

/-! ### pkt_Put: function 18 -/
mutual
def pkt_Put.l0 : Nat → ByteArray → List (S34) → Int → Int → Option (ByteArray × Int)
  | 0, _, _, _, _ => none
  | k + 1, x4, x7, x8, x9 => if x9 < x8 then (if 0 ≤ x9 then (if x9 < (x7.length : Int) then (if ((rd_T34 x7 x9).f0) = 0 then (pkt_Put.j1 k x4 x7 x8 x9 (decide ((((rd_T34 x7 x9).f1).size : Int) ≤ 1000)) ((rd_T34 x7 x9).f0) ((rd_T34 x7 x9).f1)) else (pkt_Put.j1 k x4 x7 x8 x9 false ((rd_T34 x7 x9).f0) ((rd_T34 x7 x9).f1))) else (none)) else (none)) else (some (x4, 0))
def pkt_Put.j1 : Nat → ByteArray → List (S34) → Int → Int → Bool → Int → ByteArray → Option (ByteArray × Int)
  | 0, _, _, _, _, _, _, _ => none
  | k + 1, x4, x7, x8, x9, x13, x224000, x224001 => if x13 = true then ((pkt_figures.f (wrap64 (4 + (x224001.size : Int)))).bind fun t224 => (if t224.size + x224001.size ≤ 9223372036854775807 then (if x4.size + (t224 ++ x224001).size ≤ 9223372036854775807 then (pkt_Put.l0 k (x4 ++ (t224 ++ x224001)) x7 x8 (wrap64 (x9 + 1))) else (none)) else (none))) else (if x224000 = 1 then (pkt_Put.j2 k x4 x7 x8 x9 (x224001.toList == ([] : List UInt8)) x224000 x224001) else (pkt_Put.j2 k x4 x7 x8 x9 false x224000 x224001))
def pkt_Put.j2 : Nat → ByteArray → List (S34) → Int → Int → Bool → Int → ByteArray → Option (ByteArray × Int)
  | 0, _, _, _, _, _, _, _ => none
  | k + 1, x4, x7, x8, x9, x33, x224000, x224001 => if x33 = true then ((pkt_figures.f 0).bind fun t225 => (if x4.size + t225.size ≤ 9223372036854775807 then (pkt_Put.l0 k (x4 ++ t225) x7 x8 (wrap64 (x9 + 1))) else (none))) else (if x224000 = 2 then (if x224001.toList = ([] : List UInt8) then ((pkt_figures.f 1).bind fun t226 => (if x4.size + t226.size ≤ 9223372036854775807 then (pkt_Put.l0 k (x4 ++ t226) x7 x8 (wrap64 (x9 + 1))) else (none))) else (some ((⟨#[]⟩ : ByteArray), 1))) else (some ((⟨#[]⟩ : ByteArray), 1)))
end
def pkt_Put.f (k : Nat) (l0 : List (S34)) : Option (ByteArray × Int) := pkt_Put.l0 k (⟨#[]⟩ : ByteArray) l0 (l0.length : Int) 0
theorem pkt_Put.mono_l : ∀ k, (∀ y0 y1 y2 y3, LeO (pkt_Put.l0 k y0 y1 y2 y3) (pkt_Put.l0 (k + 1) y0 y1 y2 y3)) ∧ (∀ y0 y1 y2 y3 y4 y5 y6, LeO (pkt_Put.j1 k y0 y1 y2 y3 y4 y5 y6) (pkt_Put.j1 (k + 1) y0 y1 y2 y3 y4 y5 y6)) ∧ (∀ y0 y1 y2 y3 y4 y5 y6, LeO (pkt_Put.j2 k y0 y1 y2 y3 y4 y5 y6) (pkt_Put.j2 (k + 1) y0 y1 y2 y3 y4 y5 y6))
  | 0 => ⟨fun _ _ _ _ r h => by simp [pkt_Put.l0] at h, fun _ _ _ _ _ _ _ r h => by simp [pkt_Put.j1] at h, fun _ _ _ _ _ _ _ r h => by simp [pkt_Put.j2] at h⟩
  | k + 1 => by
    obtain ⟨ih0, ih1, ih2⟩ := pkt_Put.mono_l k
    refine ⟨?_, ?_, ?_⟩
    · intro y0 y1 y2 y3
      unfold pkt_Put.l0
      repeat' first
      | (with_reducible exact ih0 _ _ _ _)
      | (with_reducible exact ih1 _ _ _ _ _ _ _)
      | (with_reducible exact ih2 _ _ _ _ _ _ _)
      | (with_reducible exact LeO.refl _)
      | (with_reducible exact LeO.none _)
      | (with_reducible refine LeO.ite ?_ ?_)
      | (with_reducible refine LeO.bind ?_ (fun _ => ?_))
      | exact ih0 _ _ _ _
      | exact ih1 _ _ _ _ _ _ _
      | exact ih2 _ _ _ _ _ _ _
      | exact LeO.none _
      | refine LeO.ite ?_ ?_
      | refine LeO.bind ?_ (fun _ => ?_)
    · intro y0 y1 y2 y3 y4 y5 y6
      unfold pkt_Put.j1
      repeat' first
      | (with_reducible exact ih0 _ _ _ _)
      | (with_reducible exact ih1 _ _ _ _ _ _ _)
      | (with_reducible exact ih2 _ _ _ _ _ _ _)
      | (with_reducible exact LeO.refl _)
      | (with_reducible exact LeO.none _)
      | (with_reducible refine LeO.ite ?_ ?_)
      | (with_reducible refine LeO.bind ?_ (fun _ => ?_))
      | exact ih0 _ _ _ _
      | exact ih1 _ _ _ _ _ _ _
      | exact ih2 _ _ _ _ _ _ _
      | exact LeO.none _
      | refine LeO.ite ?_ ?_
      | refine LeO.bind ?_ (fun _ => ?_)
    · intro y0 y1 y2 y3 y4 y5 y6
      unfold pkt_Put.j2
      repeat' first
      | (with_reducible exact ih0 _ _ _ _)
      | (with_reducible exact ih1 _ _ _ _ _ _ _)
      | (with_reducible exact ih2 _ _ _ _ _ _ _)
      | (with_reducible exact LeO.refl _)
      | (with_reducible exact LeO.none _)
      | (with_reducible refine LeO.ite ?_ ?_)
      | (with_reducible refine LeO.bind ?_ (fun _ => ?_))
      | exact ih0 _ _ _ _
      | exact ih1 _ _ _ _ _ _ _
      | exact ih2 _ _ _ _ _ _ _
      | exact LeO.none _
      | refine LeO.ite ?_ ?_
      | refine LeO.bind ?_ (fun _ => ?_)
theorem pkt_Put.mono : ∀ a0 k, LeO (pkt_Put.f k a0) (pkt_Put.f (k + 1) a0) := by
  intro a0 k
  obtain ⟨ih0, ih1, ih2⟩ := pkt_Put.mono_l k
  unfold pkt_Put.f
  repeat' first
      | (with_reducible exact ih0 _ _ _ _)
      | (with_reducible exact ih1 _ _ _ _ _ _ _)
      | (with_reducible exact ih2 _ _ _ _ _ _ _)
      | (with_reducible exact LeO.refl _)
      | (with_reducible exact LeO.none _)
      | (with_reducible refine LeO.ite ?_ ?_)
      | (with_reducible refine LeO.bind ?_ (fun _ => ?_))
      | exact ih0 _ _ _ _
      | exact ih1 _ _ _ _ _ _ _
      | exact ih2 _ _ _ _ _ _ _
      | exact LeO.none _
      | refine LeO.ite ?_ ?_
      | refine LeO.bind ?_ (fun _ => ?_)
def pkt_Put.T7 : Bool × List (List Nat × List Nat) := (true, [([], []), ([], []), ([1], [1]), ([2], [2]), ([3], [3]), ([4], [4]), ([], []), ([6], [6]), ([5, 7], [5, 7]), ([0, 8], [0, 8]), ([9, 5, 0, 1, 2, 3, 4, 5, 6, 7, 8, 9], [0, 9])])
def pkt_Put.B7 : List Nat := [0, 0, 2, 6, 14, 30, 0, 64, 254, 511, 1023]
theorem pkt_Put.tab7 : rtab .any (opsOf Try.f18 7) = pkt_Put.T7 := by kernel_rfl
theorem pkt_Put.bits7 : waitsOk pkt_Put.T7.2 pkt_Put.B7 = true := by kernel_rfl
set_option maxHeartbeats 8000000 in
set_option maxRecDepth 100000 in
theorem pkt_Put.calls (k : Nat) (A0 : Option Addr) (c0 : Nat) (l0 : List (S34)) (r1 : ByteArray) (r2 : Int) (w : World) (hr0 : Kd.C k34 w A0 l0.length l0) (hc0 : l0.length ≤ c0) (h : pkt_Put.f k l0 = some (r1, r2)) :
    Calls Try.prog 18 #[.slice A0 l0.length c0] w fun e w' => e = .returned (.tuple #[.string r1, .int .i64 r2]) ∧ Below w.heap.size w w' := by
  have hu34 := Try.underlying34
  have HR0 := Aside0.mk hr0
  have HC0 := Aside0.mk hc0
  clear hr0 hc0
  have HB := Aside0.mk (Below.refl w.heap.size w)
  have H : (pkt_Put.l0 k (⟨#[]⟩ : ByteArray) l0 (l0.length : Int) 0) = some (r1, r2) := h
  clear h
  have H' := Aside0.mk H
  clear H
  go_enter Try.func18, Try.ntmps18
  go_wp2
  go_loopg [4, 9] k (fun kq v4 v9 w' => ∃ (x4_1 : ByteArray) (x9_1 : Int), v4 = .string x4_1 ∧ v9 = .int .i64 x9_1 ∧ Aside0 (pkt_Put.l0 kq x4_1 l0 (l0.length : Int) x9_1 = some (r1, r2)) ∧ Aside0 (kq ≤ k) ∧ Aside0 (Below w.heap.size w w'))
  case atStart => exact ⟨((⟨#[]⟩ : ByteArray)), (0), (by first | rfl | (simp; done) | (simp; omega) | (simp [*]; done)), (by first | rfl | (simp; done) | (simp; omega) | (simp [*]; done)), H', ⟨Nat.le_refl _⟩, ⟨by repeat (first | (with_reducible first | exact HB.out | apply below_alloc | apply pw_below_drewN | apply below_drew1) | exact HB.out)⟩⟩
  case round =>
    clear H'
    try clear c1
    obtain ⟨x4_1, x9_1, rfl, rfl, HA, HK1, HB⟩ := hrel
    cases gk with
    | zero => exact absurd HA.out (by simp [pkt_Put.l0])
    | succ k1 =>
      have H := HA.out
      clear HA
      simp only [pkt_Put.l0] at H
      by_cases c2 : x9_1 < (l0.length : Int)
      · rw [if_pos c2] at H
        have c2b0 : decide (x9_1 < (l0.length : Int)) = true := decide_eq_true c2
        clear c2
        by_cases c3 : 0 ≤ x9_1
        · rw [if_pos c3] at H
          have c3b0 : decide (0 ≤ x9_1) = true := decide_eq_true c3
          clear c3
          by_cases c4 : x9_1 < (l0.length : Int)
          · rw [if_pos c4] at H
            have c4b0 : decide (x9_1 < (l0.length : Int)) = true := decide_eq_true c4
            clear c4
            have HC5 := Aside0.mk H
            clear H
            have p222 : 0 ≤ (x9_1 : Int) := of_decide_eq_true (by first | (with_reducible assumption) | assumption)
            have q222 : x9_1 < (l0.length : Int) := of_decide_eq_true (by first | (with_reducible assumption) | assumption)
            obtain ⟨ad222, e222, hx222_0, hx222_1⟩ := at_T34 HR0.out x9_1 p222 q222
            cases e222
            replace hx222_0 := (HB.out.cell (World.block_lt_of_cell? w _ hx222_0)).trans hx222_0
            replace hx222_1 := (HB.out.cell (World.block_lt_of_cell? w _ hx222_1)).trans hx222_1
            replace p222 := eq_true p222
            replace q222 := eq_true q222
            go_upto_region 6 with (first | ((with_reducible refine gate_dst (N := 6) rfl ?_); (try (refine gate_guard (by rfl) ?_; dsimp only)); refine box_event ?hg (N := 6) ?hd (cs := #[.int .i64 0, .string (⟨#[]⟩ : ByteArray)]) (t := 34) ?hr ?_; (case hd => rfl); (case hg => rfl); (case hr => first | (go_simp; done) | (go_simp; rfl)); intro gb223 hg w6 hbox hb; have n0_ := Aside0.mk (below_step (by repeat (first | (with_reducible first | exact HB.out | apply below_alloc | apply pw_below_drewN | apply below_drew1) | exact HB.out)) hb); have n1_ := Aside0.mk (hbox); have n2_ := Aside0.mk ((by rw [hg]; exact (below_size (by repeat (first | (with_reducible first | exact HB.out | apply below_alloc | apply pw_below_drewN | apply below_drew1) | exact HB.out))) : w.heap.size ≤ gb223)); have n3_ := Aside0.mk ((by rw [hg]; exact (below_size (by repeat (first | (with_reducible first | exact HB.out | apply below_alloc | apply pw_below_drewN | apply below_drew1) | exact HB.out))) : w.heap.size ≤ gb223)); clear HB; have HB := n0_; have BK223 := n1_; have GW223 := n2_; have GE223 := n3_; clear n0_ n1_ n2_ n3_; clear hb hbox hg; have hcz7_0 : w6.cell? ⟨gb223, 0, none⟩ = some (.int .i64 0) := (blk_cell BK223.out 0).trans rfl; have hcz7_1 : w6.cell? ⟨gb223, 1, none⟩ = some (.string (⟨#[]⟩ : ByteArray)) := (blk_cell BK223.out 1).trans rfl; have hfz7_0 := blk_frozen BK223.out 0; have hfz7_1 := blk_frozen BK223.out 1))
            (try simp only [Act.put, List.setIfInBounds_toArray, List.set_cons_zero, List.set_cons_succ])
            go_cut [13] (fun v13 wc => ∃ (kq : Nat) (x13_4 : Bool), v13 = .bool x13_4 ∧ Aside0 (pkt_Put.j1 kq x4_1 l0 (l0.length : Int) x9_1 x13_4 ((rd_T34 l0 x9_1).f0) ((rd_T34 l0 x9_1).f1) = some (r1, r2)) ∧ Aside0 (kq ≤ k1) ∧ Aside0 (wc.heap[gb223]? = some (.cells #[.int .i64 ((rd_T34 l0 x9_1).f0), .string ((rd_T34 l0 x9_1).f1)] 34 (0, 0))) ∧ Aside0 (Below w.heap.size w wc))
            case first =>
              have H := HC5.out
              clear HC5
              by_cases c8 : ((rd_T34 l0 x9_1).f0) = 0
              · rw [if_pos c8] at H
                have c8b0 : (((rd_T34 l0 x9_1).f0) == 0) = true := beq_iff_eq.mpr c8
                have c8b1 : (((rd_T34 l0 x9_1).f0) != 0) = false := bne_eq_false_iff_eq.mpr c8
                clear c8
                (first | rw [c8b0] | (simp only [i64_w, i32_w]; rw [c8b0]) | skip)
                have H' := Aside0.mk H
                clear H
                have hcz9_0 : w6.cell? ⟨gb223, 0, none⟩ = some (.int .i64 0) := (blk_cell BK223.out 0).trans rfl
                have hcz9_1 : w6.cell? ⟨gb223, 1, none⟩ = some (.string (⟨#[]⟩ : ByteArray)) := (blk_cell BK223.out 1).trans rfl
                have hfz9_0 := blk_frozen BK223.out 0
                have hfz9_1 := blk_frozen BK223.out 1
                go_wp2
                go_meet
                case rel => exact ⟨_, (decide ((((rd_T34 l0 x9_1).f1).size : Int) ≤ 1000)), (by first | rfl | (simp; done) | (simp; omega) | (simp [*]; done)), H', ⟨by have := HK1.out; first | omega | exact Nat.le_refl _⟩, ⟨by (with_reducible repeat (first | refine blk_drewN ?_ _ | refine blk_drew ?_ | refine blk_alloc ?_ _)); refine blk_put (cs := #[.int .i64 ((rd_T34 l0 x9_1).f0), .string (⟨#[]⟩ : ByteArray)]) ?_ 1 _ rfl; (with_reducible repeat (first | refine blk_drewN ?_ _ | refine blk_drew ?_ | refine blk_alloc ?_ _)); refine blk_put (cs := #[.int .i64 0, .string (⟨#[]⟩ : ByteArray)]) ?_ 0 _ rfl; (with_reducible repeat (first | refine blk_drewN ?_ _ | refine blk_drew ?_ | refine blk_alloc ?_ _)); exact BK223.out⟩, ⟨by repeat (first | (with_reducible first | exact HB.out | apply below_alloc | apply pw_below_drewN | apply below_drew1 | refine below_set ?_ GE223.out) | exact HB.out)⟩⟩
              · rw [if_neg c8] at H
                have c8b0 : (((rd_T34 l0 x9_1).f0) == 0) = false := beq_eq_false_iff_ne.mpr c8
                have c8b1 : (((rd_T34 l0 x9_1).f0) != 0) = true := bne_iff_ne.mpr c8
                (first | rw [c8b0] | (simp only [i64_w, i32_w]; rw [c8b0]) | skip)
                have H' := Aside0.mk H
                clear H
                have hcz10_0 : w6.cell? ⟨gb223, 0, none⟩ = some (.int .i64 0) := (blk_cell BK223.out 0).trans rfl
                have hcz10_1 : w6.cell? ⟨gb223, 1, none⟩ = some (.string (⟨#[]⟩ : ByteArray)) := (blk_cell BK223.out 1).trans rfl
                have hfz10_0 := blk_frozen BK223.out 0
                have hfz10_1 := blk_frozen BK223.out 1
                go_wp2
                go_meet
                case rel => exact ⟨_, (false), (by first | rfl | (simp; done) | (simp; omega) | (simp [*]; done)), H', ⟨by have := HK1.out; first | omega | exact Nat.le_refl _⟩, ⟨by (with_reducible repeat (first | refine blk_drewN ?_ _ | refine blk_drew ?_ | refine blk_alloc ?_ _)); refine blk_put (cs := #[.int .i64 ((rd_T34 l0 x9_1).f0), .string (⟨#[]⟩ : ByteArray)]) ?_ 1 _ rfl; (with_reducible repeat (first | refine blk_drewN ?_ _ | refine blk_drew ?_ | refine blk_alloc ?_ _)); refine blk_put (cs := #[.int .i64 0, .string (⟨#[]⟩ : ByteArray)]) ?_ 0 _ rfl; (with_reducible repeat (first | refine blk_drewN ?_ _ | refine blk_drew ?_ | refine blk_alloc ?_ _)); exact BK223.out⟩, ⟨by repeat (first | (with_reducible first | exact HB.out | apply below_alloc | apply pw_below_drewN | apply below_drew1 | refine below_set ?_ GE223.out) | exact HB.out)⟩⟩
            case rest =>
              clear HC5
              try clear c1
              try clear c2
              try clear c2b0
              try clear p2
              try clear q2
              try clear hx2
              try clear c3
              try clear c3b0
              try clear c4
              try clear c4b0
              try clear c8
              try clear c8b0
              try clear c8b1
              try clear hcz10_0
              try clear hcz10_1
              try clear hcz7_0
              try clear hcz7_1
              try clear hcz9_0
              try clear hcz9_1
              try clear hfz10_0
              try clear hfz10_1
              try clear hfz7_0
              try clear hfz7_1
              try clear hfz9_0
              try clear hfz9_1
              try clear hx222_0
              try clear hx222_1
              try clear p222
              try clear q222
              obtain ⟨kq, x13_4, rfl, HA, HJ4, BK223, HB⟩ := hcut
              cases kq with
              | zero => exact absurd HA.out (by simp [pkt_Put.j1])
              | succ kj4 =>
                have H := HA.out
                clear HA
                simp only [pkt_Put.j1] at H
                by_cases c11 : x13_4 = true
                · subst c11
                  have H1 : ((pkt_figures.f (wrap64 (4 + (((rd_T34 l0 x9_1).f1).size : Int)))).bind fun t224 => (if t224.size + ((rd_T34 l0 x9_1).f1).size ≤ 9223372036854775807 then (if x4_1.size + (t224 ++ ((rd_T34 l0 x9_1).f1)).size ≤ 9223372036854775807 then (pkt_Put.l0 kj4 (x4_1 ++ (t224 ++ ((rd_T34 l0 x9_1).f1))) l0 (l0.length : Int) (wrap64 (x9_1 + 1))) else (none)) else (none))) = some (r1, r2) := by rw [if_pos rfl] at H; exact H
                  clear H
                  have H := H1
                  clear H1
                  replace H := Option.bind_eq_some_iff.mp H
                  obtain ⟨t224, A120, H⟩ := H
                  replace H : (if t224.size + ((rd_T34 l0 x9_1).f1).size ≤ 9223372036854775807 then (if x4_1.size + (t224 ++ ((rd_T34 l0 x9_1).f1)).size ≤ 9223372036854775807 then (pkt_Put.l0 kj4 (x4_1 ++ (t224 ++ ((rd_T34 l0 x9_1).f1))) l0 (l0.length : Int) (wrap64 (x9_1 + 1))) else (none)) else (none)) = some (r1, r2) := H
                  have A12 := Aside0.mk A120
                  clear A120
                  by_cases c13 : t224.size + ((rd_T34 l0 x9_1).f1).size ≤ 9223372036854775807
                  · rw [if_pos c13] at H
                    have c13b1 : decide (t224.size + ((rd_T34 l0 x9_1).f1).size ≤ 9223372036854775807) = true := decide_eq_true c13
                    try have c13b2 : (9223372036854775807 < t224.size + ((rd_T34 l0 x9_1).f1).size) = False := eq_false (Nat.not_lt.2 c13)
                    clear c13
                    by_cases c14 : x4_1.size + (t224 ++ ((rd_T34 l0 x9_1).f1)).size ≤ 9223372036854775807
                    · rw [if_pos c14] at H
                      have c14b1 : decide (x4_1.size + (t224 ++ ((rd_T34 l0 x9_1).f1)).size ≤ 9223372036854775807) = true := decide_eq_true c14
                      try have c14b2 : (9223372036854775807 < x4_1.size + (t224 ++ ((rd_T34 l0 x9_1).f1)).size) = False := eq_false (Nat.not_lt.2 c14)
                      (try have c14nb2 := c14b2)
                      (first | simp only [ByteArray.size_append, ByteArray.size_extract, Nat.sub_zero, Nat.min_self, Int.natCast_add] at c14nb2 | clear c14nb2 | skip)
                      clear c14
                      have H' := Aside0.mk H
                      clear H
                      try go_wp2
                      have n0_ := Aside0.mk (blk_drew BK223.out)
                      have n1_ := Aside0.mk (below_drew1 HB.out)
                      clear BK223
                      clear HB
                      have BK223 := n0_
                      have HB := n1_
                      clear n0_ n1_
                      refine start_ (n := 11) (S := fun w' => w'.cell? ⟨gb223, 0, none⟩ = some (.int .i64 ((rd_T34 l0 x9_1).f0)) ∧ w'.cell? ⟨gb223, 1, none⟩ = some (.string ((rd_T34 l0 x9_1).f1))) (ds := []) #[false, false, false, false, false, false, false, false, false, false, false] (by kernel_rfl) rfl rfl ⟨(blk_cell BK223.out 0).trans rfl, (blk_cell BK223.out 1).trans rfl⟩ (fun hHeld => ?_); refine with_tabW pkt_Put.tab7 pkt_Put.bits7 (fun HT_ HW_ => ?_)
                      generalize wc.drew = w15 at BK223 HB hHeld ⊢
                      refine pure_ (i := 0) (N := some 23) (v := ?_) (a' := ?_) #[true, false, false, false, false, false, false, false, false, false, false] rfl rfl (any_of HT_.out (by kernel_rfl)) (fun _ _ _ h => h) (Or.inl ⟨by rfl, ?_⟩) ?_ ?_
                      rotate_left
                      · intro w'
                        go_simp
                        with_reducible rfl
                      rotate_left
                      · simp only [Act.put, List.setIfInBounds_toArray, List.set_cons_zero, List.set_cons_succ, i64_w, i32_w]
                        rfl
                      refine pure_ (i := 1) (N := some 24) (v := ?_) (a' := ?_) #[true, true, false, false, false, false, false, false, false, false, false] rfl rfl (any_of HT_.out (by kernel_rfl)) (fun _ _ _ h => h) (Or.inl ⟨by rfl, ?_⟩) ?_ ?_
                      rotate_left
                      · intro w'
                        go_simp
                        with_reducible rfl
                      rotate_left
                      · simp only [Act.put, List.setIfInBounds_toArray, List.set_cons_zero, List.set_cons_succ, i64_w, i32_w]
                        rfl
                      refine pure_ (i := 6) (N := some 29) (v := ?_) (a' := ?_) #[true, true, false, false, false, false, true, false, false, false, false] rfl rfl (any_of HT_.out (by kernel_rfl)) (fun _ _ _ h => h) (Or.inl ⟨by rfl, ?_⟩) ?_ ?_
                      rotate_left
                      · intro w'
                        go_simp
                        with_reducible rfl
                      rotate_left
                      · simp only [Act.put, List.setIfInBounds_toArray, List.set_cons_zero, List.set_cons_succ, i64_w, i32_w]
                        rfl
                      refine take_ (i := 2) (N := some 25) (v := ?_) (a' := ?_) #[true, true, true, false, false, false, true, false, false, false, false] rfl rfl (take_ofW HT_.out HW_.out (by kernel_rfl)) (fun _ _ _ h => h) (Or.inl ⟨by rfl, ?_⟩) hHeld ?_ ?_
                      rotate_left
                      · rintro w' ⟨s0, s1⟩
                        go_simp
                        with_reducible rfl
                      rotate_left
                      · simp only [Act.put, List.setIfInBounds_toArray, List.set_cons_zero, List.set_cons_succ, i64_w, i32_w]
                        rfl
                      refine pure_ (i := 3) (N := some 26) (v := ?_) (a' := ?_) #[true, true, true, true, false, false, true, false, false, false, false] rfl rfl (any_of HT_.out (by kernel_rfl)) (fun _ _ _ h => h) (Or.inl ⟨by rfl, ?_⟩) ?_ ?_
                      rotate_left
                      · intro w'
                        go_simp
                        with_reducible rfl
                      rotate_left
                      · simp only [Act.put, List.setIfInBounds_toArray, List.set_cons_zero, List.set_cons_succ, i64_w, i32_w]
                        rfl
                      refine pure_ (i := 4) (N := some 27) (v := ?_) (a' := ?_) #[true, true, true, true, true, false, true, false, false, false, false] rfl rfl (any_of HT_.out (by kernel_rfl)) (fun _ _ _ h => h) (Or.inl ⟨by rfl, ?_⟩) ?_ ?_
                      rotate_left
                      · intro w'
                        go_simp
                        with_reducible rfl
                      rotate_left
                      · simp only [Act.put, List.setIfInBounds_toArray, List.set_cons_zero, List.set_cons_succ, i64_w, i32_w]
                        rfl
                      refine take_ (i := 7) (N := some 30) (v := ?_) (a' := ?_) #[true, true, true, true, true, false, true, true, false, false, false] rfl rfl (take_ofW HT_.out HW_.out (by kernel_rfl)) (fun _ _ _ h => h) (Or.inl ⟨by rfl, ?_⟩) hHeld ?_ ?_
                      rotate_left
                      · rintro w' ⟨s0, s1⟩
                        go_simp
                        with_reducible rfl
                      rotate_left
                      · simp only [Act.put, List.setIfInBounds_toArray, List.set_cons_zero, List.set_cons_succ, i64_w, i32_w]
                        rfl
                      refine one_ (i := 5) (N := some 28) #[true, true, true, true, true, true, true, true, false, false, false] rfl rfl (one_of HT_.out (by kernel_rfl)) (by decide) (fun K hK => ?_)
                      refine goes_ Try.func24 (by kernel_rfl) rfl #[.int .i64 (wrap64 (4 + (((rd_T34 l0 x9_1).f1).size : Int)))] (by rfl) rfl rfl (by (try simp only [List.map_toArray, List.map_cons, List.map_nil]); first | done | rfl | (simp only [List.length_drop, List.length_take]; rfl)) ?_
                      with_reducible refine (pkt_figures.calls (wrap64 (4 + (((rd_T34 l0 x9_1).f1).size : Int))) t224 _ A12.out).mono ?_
                      rintro e w16 ⟨rfl, hb⟩
                      refine ⟨_, rfl, ?_⟩
                      have n0_ := Aside0.mk (blk_below (g := gb223) (o := .cells #[.int .i64 ((rd_T34 l0 x9_1).f0), .string ((rd_T34 l0 x9_1).f1)] 34 (0, 0)) (by (with_reducible repeat (first | refine blk_drewN ?_ _ | refine blk_drew ?_ | refine blk_alloc ?_ _)); exact BK223.out) hb)
                      have n1_ := Aside0.mk (below_step (by repeat (first | (with_reducible first | exact HB.out | apply below_alloc | apply pw_below_drewN | apply below_drew1 | refine below_set ?_ GE223.out) | exact HB.out)) hb)
                      clear BK223
                      clear HB
                      have BK223 := n0_
                      have HB := n1_
                      clear n0_ n1_
                      (try clear hb)
                      (try clear hb2)
                      (try clear hk)
                      (try clear hi)
                      refine hK.out _ _ ⟨(blk_cell BK223.out 0).trans rfl, (blk_cell BK223.out 1).trans rfl⟩ (fun hHeld => ?_)
                      clear hK K
                      refine norm_ (a' := ?_) ?_ ?_
                      rotate_left
                      · show Act.put _ (some 28) _ = _
                        simp only [Act.put, List.setIfInBounds_toArray, List.set_cons_zero, List.set_cons_succ, i64_w, i32_w]
                        rfl
                      refine pure_ (i := 8) (N := some 31) (v := ?_) (a' := ?_) #[true, true, true, true, true, true, true, true, true, false, false] rfl rfl (any_of HT_.out (by kernel_rfl)) (fun _ _ _ h => h) (Or.inl ⟨by rfl, ?_⟩) ?_ ?_
                      rotate_left
                      · intro w'
                        go_simp
                        with_reducible rfl
                      rotate_left
                      · simp only [Act.put, List.setIfInBounds_toArray, List.set_cons_zero, List.set_cons_succ, i64_w, i32_w]
                        rfl
                      refine pure_ (i := 9) (N := some 32) (v := ?_) (a' := ?_) #[true, true, true, true, true, true, true, true, true, true, false] rfl rfl (any_of HT_.out (by kernel_rfl)) (fun _ _ _ h => h) (Or.inl ⟨by rfl, ?_⟩) ?_ ?_
                      rotate_left
                      · intro w'
                        go_simp
                        with_reducible rfl
                      rotate_left
                      · simp only [Act.put, List.setIfInBounds_toArray, List.set_cons_zero, List.set_cons_succ, i64_w, i32_w]
                        rfl
                      refine pure_ (i := 10) (N := some 4) (v := ?_) (a' := ?_) #[true, true, true, true, true, true, true, true, true, true, true] rfl rfl (any_of HT_.out (by kernel_rfl)) (fun _ _ _ h => h) (Or.inl ⟨by rfl, ?_⟩) ?_ ?_
                      rotate_left
                      · intro w'
                        go_simp
                        with_reducible rfl
                      rotate_left
                      · simp only [Act.put, List.setIfInBounds_toArray, List.set_cons_zero, List.set_cons_succ, i64_w, i32_w]
                        rfl
                      refine done_ (done_of HT_.out (by kernel_rfl)) ?_
                      try go_wp2
                      go_roundg kj4
                      case measure => have := HK1.out; have := HJ4.out; omega
                      case rel => exact ⟨(x4_1 ++ (t224 ++ ((rd_T34 l0 x9_1).f1))), (wrap64 (x9_1 + 1)), (by first | rfl | (simp; done) | (simp; omega) | (simp [*]; done)), (by first | rfl | (simp; done) | (simp; omega) | (simp [*]; done)), H', ⟨by have := HK1.out; have := HJ4.out; omega⟩, ⟨by repeat (first | (with_reducible first | exact HB.out | apply below_alloc | apply pw_below_drewN | apply below_drew1 | refine below_set ?_ GE223.out) | exact HB.out)⟩⟩
                    · rw [if_neg c14] at H
                      exact absurd H (by simp)
                  · rw [if_neg c13] at H
                    exact absurd H (by simp)
                · replace c11 := Bool.eq_false_iff.mpr c11
                  subst c11
                  have H1 : (if ((rd_T34 l0 x9_1).f0) = 1 then (pkt_Put.j2 kj4 x4_1 l0 (l0.length : Int) x9_1 (((rd_T34 l0 x9_1).f1).toList == ([] : List UInt8)) ((rd_T34 l0 x9_1).f0) ((rd_T34 l0 x9_1).f1)) else (pkt_Put.j2 kj4 x4_1 l0 (l0.length : Int) x9_1 false ((rd_T34 l0 x9_1).f0) ((rd_T34 l0 x9_1).f1))) = some (r1, r2) := by rw [if_neg (show ¬ (false = true) by decide)] at H; exact H
                  clear H
                  have H := H1
                  clear H1
                  have HC17 := Aside0.mk H
                  clear H
                  go_upto_region 8 with (fail)
                  go_cut [33] (fun v33 wc => ∃ (kq : Nat) (x33_16 : Bool), v33 = .bool x33_16 ∧ Aside0 (pkt_Put.j2 kq x4_1 l0 (l0.length : Int) x9_1 x33_16 ((rd_T34 l0 x9_1).f0) ((rd_T34 l0 x9_1).f1) = some (r1, r2)) ∧ Aside0 (kq ≤ kj4) ∧ Aside0 (wc.heap[gb223]? = some (.cells #[.int .i64 ((rd_T34 l0 x9_1).f0), .string ((rd_T34 l0 x9_1).f1)] 34 (0, 0))) ∧ Aside0 (Below w.heap.size w wc))
                  case first =>
                    have H := HC17.out
                    clear HC17
                    by_cases c18 : ((rd_T34 l0 x9_1).f0) = 1
                    · rw [if_pos c18] at H
                      have c18b0 : (((rd_T34 l0 x9_1).f0) == 1) = true := beq_iff_eq.mpr c18
                      have c18b1 : (((rd_T34 l0 x9_1).f0) != 1) = false := bne_eq_false_iff_eq.mpr c18
                      clear c18
                      (first | rw [c18b0] | (simp only [i64_w, i32_w]; rw [c18b0]) | skip)
                      have H' := Aside0.mk H
                      clear H
                      have hcz19_0 : wc.cell? ⟨gb223, 0, none⟩ = some (.int .i64 ((rd_T34 l0 x9_1).f0)) := (blk_cell BK223.out 0).trans rfl
                      have hcz19_1 : wc.cell? ⟨gb223, 1, none⟩ = some (.string ((rd_T34 l0 x9_1).f1)) := (blk_cell BK223.out 1).trans rfl
                      have hfz19_0 := blk_frozen BK223.out 0
                      have hfz19_1 := blk_frozen BK223.out 1
                      go_wp2
                      go_meet
                      case rel => exact ⟨_, ((((rd_T34 l0 x9_1).f1).toList == ([] : List UInt8))), (by first | rfl | (simp; done) | (simp; omega) | (simp [*]; done)), H', ⟨by have := HK1.out; have := HJ4.out; first | omega | exact Nat.le_refl _⟩, ⟨by (with_reducible repeat (first | refine blk_drewN ?_ _ | refine blk_drew ?_ | refine blk_alloc ?_ _)); exact BK223.out⟩, ⟨by repeat (first | (with_reducible first | exact HB.out | apply below_alloc | apply pw_below_drewN | apply below_drew1 | refine below_set ?_ GE223.out) | exact HB.out)⟩⟩
                    · rw [if_neg c18] at H
                      have c18b0 : (((rd_T34 l0 x9_1).f0) == 1) = false := beq_eq_false_iff_ne.mpr c18
                      have c18b1 : (((rd_T34 l0 x9_1).f0) != 1) = true := bne_iff_ne.mpr c18
                      (first | rw [c18b0] | (simp only [i64_w, i32_w]; rw [c18b0]) | skip)
                      have H' := Aside0.mk H
                      clear H
                      have hcz20_0 : wc.cell? ⟨gb223, 0, none⟩ = some (.int .i64 ((rd_T34 l0 x9_1).f0)) := (blk_cell BK223.out 0).trans rfl
                      have hcz20_1 : wc.cell? ⟨gb223, 1, none⟩ = some (.string ((rd_T34 l0 x9_1).f1)) := (blk_cell BK223.out 1).trans rfl
                      have hfz20_0 := blk_frozen BK223.out 0
                      have hfz20_1 := blk_frozen BK223.out 1
                      go_wp2
                      go_meet
                      case rel => exact ⟨_, (false), (by first | rfl | (simp; done) | (simp; omega) | (simp [*]; done)), H', ⟨by have := HK1.out; have := HJ4.out; first | omega | exact Nat.le_refl _⟩, ⟨by (with_reducible repeat (first | refine blk_drewN ?_ _ | refine blk_drew ?_ | refine blk_alloc ?_ _)); exact BK223.out⟩, ⟨by repeat (first | (with_reducible first | exact HB.out | apply below_alloc | apply pw_below_drewN | apply below_drew1 | refine below_set ?_ GE223.out) | exact HB.out)⟩⟩
                  case rest =>
                    clear HC17
                    try clear c1
                    try clear c2
                    try clear c2b0
                    try clear p2
                    try clear q2
                    try clear hx2
                    try clear c3
                    try clear c3b0
                    try clear c4
                    try clear c4b0
                    try clear p6
                    try clear c8
                    try clear c8b0
                    try clear c8b1
                    try clear c11
                    try clear c13
                    try clear c13b1
                    try clear c13b2
                    try clear c14
                    try clear c14b1
                    try clear c14b2
                    try clear c18
                    try clear c18b0
                    try clear c18b1
                    try clear hcz10_0
                    try clear hcz10_1
                    try clear hcz19_0
                    try clear hcz19_1
                    try clear hcz20_0
                    try clear hcz20_1
                    try clear hcz7_0
                    try clear hcz7_1
                    try clear hcz9_0
                    try clear hcz9_1
                    try clear hfz10_0
                    try clear hfz10_1
                    try clear hfz19_0
                    try clear hfz19_1
                    try clear hfz20_0
                    try clear hfz20_1
                    try clear hfz7_0
                    try clear hfz7_1
                    try clear hfz9_0
                    try clear hfz9_1
                    try clear hx222_0
                    try clear hx222_1
                    try clear p2
                    try clear p222
                    try clear q2
                    try clear q222
                    obtain ⟨kq, x33_16, rfl, HA, HJ16, BK223, HB⟩ := hcut
                    cases kq with
                    | zero => exact absurd HA.out (by simp [pkt_Put.j2])
                    | succ kj16 =>
                      have H := HA.out
                      clear HA
                      simp only [pkt_Put.j2] at H
                      by_cases c21 : x33_16 = true
                      · subst c21
                        have H1 : ((pkt_figures.f 0).bind fun t225 => (if x4_1.size + t225.size ≤ 9223372036854775807 then (pkt_Put.l0 kj16 (x4_1 ++ t225) l0 (l0.length : Int) (wrap64 (x9_1 + 1))) else (none))) = some (r1, r2) := by rw [if_pos rfl] at H; exact H
                        clear H
                        have H := H1
                        clear H1
                        replace H := Option.bind_eq_some_iff.mp H
                        obtain ⟨t225, A220, H⟩ := H
                        replace H : (if x4_1.size + t225.size ≤ 9223372036854775807 then (pkt_Put.l0 kj16 (x4_1 ++ t225) l0 (l0.length : Int) (wrap64 (x9_1 + 1))) else (none)) = some (r1, r2) := H
                        have A22 := Aside0.mk A220
                        clear A220
                        by_cases c23 : x4_1.size + t225.size ≤ 9223372036854775807
                        · rw [if_pos c23] at H
                          have c23b1 : decide (x4_1.size + t225.size ≤ 9223372036854775807) = true := decide_eq_true c23
                          try have c23b2 : (9223372036854775807 < x4_1.size + t225.size) = False := eq_false (Nat.not_lt.2 c23)
                          clear c23
                          have H' := Aside0.mk H
                          clear H
                          go_wp2_with (first | ((with_reducible refine gate_callee (f := 24) rfl ?_); refine goesL_ (some 43) rfl rfl Try.func24 (by kernel_rfl) rfl #[.int .i64 0] rfl (by (try simp only [List.map_toArray, List.map_cons, List.map_nil]); first | done | rfl | (simp only [List.length_drop, List.length_take]; rfl)) ?_; (with_reducible refine (pkt_figures.calls 0 t225 _ A22.out).mono ?_); rintro e w24 ⟨rfl, hb⟩; refine ⟨_, rfl, ?_⟩; have n0_ := Aside0.mk (blk_below (g := gb223) (o := .cells #[.int .i64 ((rd_T34 l0 x9_1).f0), .string ((rd_T34 l0 x9_1).f1)] 34 (0, 0)) (by (with_reducible repeat (first | refine blk_drewN ?_ _ | refine blk_drew ?_ | refine blk_alloc ?_ _)); exact BK223.out) hb); have n1_ := Aside0.mk (below_step (by repeat (first | (with_reducible first | exact HB.out | apply below_alloc | apply pw_below_drewN | apply below_drew1 | refine below_set ?_ GE223.out) | exact HB.out)) hb); clear BK223; clear HB; have BK223 := n0_; have HB := n1_; clear n0_ n1_; (try clear hb); (try clear hb2); (try clear hk); (try clear hi)))
                          go_roundg kj16
                          case measure => have := HK1.out; have := HJ4.out; have := HJ16.out; omega
                          case rel => exact ⟨(x4_1 ++ t225), (wrap64 (x9_1 + 1)), (by first | rfl | (simp; done) | (simp; omega) | (simp [*]; done)), (by first | rfl | (simp; done) | (simp; omega) | (simp [*]; done)), H', ⟨by have := HK1.out; have := HJ4.out; have := HJ16.out; omega⟩, ⟨by repeat (first | (with_reducible first | exact HB.out | apply below_alloc | apply pw_below_drewN | apply below_drew1 | refine below_set ?_ GE223.out) | exact HB.out)⟩⟩
                        · rw [if_neg c23] at H
                          exact absurd H (by simp)
                      · replace c21 := Bool.eq_false_iff.mpr c21
                        subst c21
                        have H1 : (if ((rd_T34 l0 x9_1).f0) = 2 then (if ((rd_T34 l0 x9_1).f1).toList = ([] : List UInt8) then ((pkt_figures.f 1).bind fun t226 => (if x4_1.size + t226.size ≤ 9223372036854775807 then (pkt_Put.l0 kj16 (x4_1 ++ t226) l0 (l0.length : Int) (wrap64 (x9_1 + 1))) else (none))) else (some ((⟨#[]⟩ : ByteArray), 1))) else (some ((⟨#[]⟩ : ByteArray), 1))) = some (r1, r2) := by rw [if_neg (show ¬ (false = true) by decide)] at H; exact H
                        clear H
                        have H := H1
                        clear H1
                        by_cases c25 : ((rd_T34 l0 x9_1).f0) = 2
                        · rw [if_pos c25] at H
                          have c25b0 : (((rd_T34 l0 x9_1).f0) == 2) = true := beq_iff_eq.mpr c25
                          have c25b1 : (((rd_T34 l0 x9_1).f0) != 2) = false := bne_eq_false_iff_eq.mpr c25
                          clear c25
                          by_cases c26 : ((rd_T34 l0 x9_1).f1).toList = ([] : List UInt8)
                          · rw [if_pos c26] at H
                            have c26b0 : (((rd_T34 l0 x9_1).f1).toList == ([] : List UInt8)) = true := beq_iff_eq.mpr c26
                            have c26b1 : (((rd_T34 l0 x9_1).f1).toList != ([] : List UInt8)) = false := bne_eq_false_iff_eq.mpr c26
                            clear c26
                            replace H := Option.bind_eq_some_iff.mp H
                            obtain ⟨t226, A270, H⟩ := H
                            replace H : (if x4_1.size + t226.size ≤ 9223372036854775807 then (pkt_Put.l0 kj16 (x4_1 ++ t226) l0 (l0.length : Int) (wrap64 (x9_1 + 1))) else (none)) = some (r1, r2) := H
                            have A27 := Aside0.mk A270
                            clear A270
                            by_cases c28 : x4_1.size + t226.size ≤ 9223372036854775807
                            · rw [if_pos c28] at H
                              have c28b1 : decide (x4_1.size + t226.size ≤ 9223372036854775807) = true := decide_eq_true c28
                              try have c28b2 : (9223372036854775807 < x4_1.size + t226.size) = False := eq_false (Nat.not_lt.2 c28)
                              clear c28
                              have H' := Aside0.mk H
                              clear H
                              have hcz29_0 : wc.cell? ⟨gb223, 0, none⟩ = some (.int .i64 ((rd_T34 l0 x9_1).f0)) := (blk_cell BK223.out 0).trans rfl
                              have hcz29_1 : wc.cell? ⟨gb223, 1, none⟩ = some (.string ((rd_T34 l0 x9_1).f1)) := (blk_cell BK223.out 1).trans rfl
                              have hfz29_0 := blk_frozen BK223.out 0
                              have hfz29_1 := blk_frozen BK223.out 1
                              go_wp2_with (first | ((with_reducible refine gate_callee (f := 24) rfl ?_); refine goesL_ (some 55) rfl rfl Try.func24 (by kernel_rfl) rfl #[.int .i64 1] rfl (by (try simp only [List.map_toArray, List.map_cons, List.map_nil]); first | done | rfl | (simp only [List.length_drop, List.length_take]; rfl)) ?_; (with_reducible refine (pkt_figures.calls 1 t226 _ A27.out).mono ?_); rintro e w30 ⟨rfl, hb⟩; refine ⟨_, rfl, ?_⟩; have n0_ := Aside0.mk (blk_below (g := gb223) (o := .cells #[.int .i64 ((rd_T34 l0 x9_1).f0), .string ((rd_T34 l0 x9_1).f1)] 34 (0, 0)) (by (with_reducible repeat (first | refine blk_drewN ?_ _ | refine blk_drew ?_ | refine blk_alloc ?_ _)); exact BK223.out) hb); have n1_ := Aside0.mk (below_step (by repeat (first | (with_reducible first | exact HB.out | apply below_alloc | apply pw_below_drewN | apply below_drew1 | refine below_set ?_ GE223.out) | exact HB.out)) hb); clear BK223; clear HB; have BK223 := n0_; have HB := n1_; clear n0_ n1_; (try clear hb); (try clear hb2); (try clear hk); (try clear hi)))
                              go_roundg kj16
                              case measure => have := HK1.out; have := HJ4.out; have := HJ16.out; omega
                              case rel => exact ⟨(x4_1 ++ t226), (wrap64 (x9_1 + 1)), (by first | rfl | (simp; done) | (simp; omega) | (simp [*]; done)), (by first | rfl | (simp; done) | (simp; omega) | (simp [*]; done)), H', ⟨by have := HK1.out; have := HJ4.out; have := HJ16.out; omega⟩, ⟨by repeat (first | (with_reducible first | exact HB.out | apply below_alloc | apply pw_below_drewN | apply below_drew1 | refine below_set ?_ GE223.out) | exact HB.out)⟩⟩
                            · rw [if_neg c28] at H
                              exact absurd H (by simp)
                          · rw [if_neg c26] at H
                            have c26b0 : (((rd_T34 l0 x9_1).f1).toList == ([] : List UInt8)) = false := beq_eq_false_iff_ne.mpr c26
                            have c26b1 : (((rd_T34 l0 x9_1).f1).toList != ([] : List UInt8)) = true := bne_iff_ne.mpr c26
                            simp only [Option.some.injEq, Prod.mk.injEq] at H
                            obtain ⟨rfl, rfl⟩ := H
                            have hcz31_0 : wc.cell? ⟨gb223, 0, none⟩ = some (.int .i64 ((rd_T34 l0 x9_1).f0)) := (blk_cell BK223.out 0).trans rfl
                            have hcz31_1 : wc.cell? ⟨gb223, 1, none⟩ = some (.string ((rd_T34 l0 x9_1).f1)) := (blk_cell BK223.out 1).trans rfl
                            have hfz31_0 := blk_frozen BK223.out 0
                            have hfz31_1 := blk_frozen BK223.out 1
                            go_wp2
                            go_ret2
                            exact ⟨by first | rfl | (simp [errW_none, errW_some] <;> rfl) | (simp [*, errW_none, errW_some] <;> rfl), by repeat (first | (with_reducible first | exact HB.out | apply below_alloc | apply pw_below_drewN | apply below_drew1 | refine below_set ?_ GE223.out) | exact HB.out)⟩
                        · rw [if_neg c25] at H
                          have c25b0 : (((rd_T34 l0 x9_1).f0) == 2) = false := beq_eq_false_iff_ne.mpr c25
                          have c25b1 : (((rd_T34 l0 x9_1).f0) != 2) = true := bne_iff_ne.mpr c25
                          simp only [Option.some.injEq, Prod.mk.injEq] at H
                          obtain ⟨rfl, rfl⟩ := H
                          have hcz32_0 : wc.cell? ⟨gb223, 0, none⟩ = some (.int .i64 ((rd_T34 l0 x9_1).f0)) := (blk_cell BK223.out 0).trans rfl
                          have hcz32_1 : wc.cell? ⟨gb223, 1, none⟩ = some (.string ((rd_T34 l0 x9_1).f1)) := (blk_cell BK223.out 1).trans rfl
                          have hfz32_0 := blk_frozen BK223.out 0
                          have hfz32_1 := blk_frozen BK223.out 1
                          go_wp2
                          go_ret2
                          exact ⟨by first | rfl | (simp [errW_none, errW_some] <;> rfl) | (simp [*, errW_none, errW_some] <;> rfl), by repeat (first | (with_reducible first | exact HB.out | apply below_alloc | apply pw_below_drewN | apply below_drew1 | refine below_set ?_ GE223.out) | exact HB.out)⟩
          · rw [if_neg c4] at H
            exact absurd H (by simp)
        · rw [if_neg c3] at H
          exact absurd H (by simp)
      · rw [if_neg c2] at H
        have c2b0 : decide (x9_1 < (l0.length : Int)) = false := decide_eq_false c2
        clear c2
        simp only [Option.some.injEq, Prod.mk.injEq] at H
        obtain ⟨rfl, rfl⟩ := H
        go_wp2
        go_ret2
        exact ⟨by first | rfl | (simp [errW_none, errW_some] <;> rfl) | (simp [*, errW_none, errW_some] <;> rfl), by repeat (first | (with_reducible first | exact HB.out | apply below_alloc | apply pw_below_drewN | apply below_drew1) | exact HB.out)⟩

-- NOT PRINTED: function 32 (bytealg_IndexByteString)

-- NOT PRINTED: function 31 (stringslite_IndexByte)

/-! ### strings_IndexByte: function 29, by hand -/
def strings_IndexByte.f (a0 : ByteArray) (a1 : Int) : Option Int := some (Lib.indexByte a0.data.toList a1.toNat.toUInt8)
set_option maxHeartbeats 1000000 in
set_option maxRecDepth 100000 in
theorem stringslite_IndexByte_any (s : ByteArray) (c : Int) (w : World) :
    Calls Try.prog 31 #[.string s, .int .u8 c] w fun e w' => e = .returned (.int .i64 (Lib.indexByte s.data.toList c.toNat.toUInt8)) ∧ w' = w := by
  go_enter Try.func31, Try.ntmps31
  go_wp2
  rw [run_callFunc_extern Try.func32 (by kernel_rfl) (by kernel_rfl) (by kernel_rfl) (e := Extern.BytealgIndexByte.indexByte) (by kernel_rfl), Lib.run_indexByteString]
  simp only [Result.andThen]
  rw [Oper.upon_value]
  go_wp2
  go_ret
  exact ⟨rfl, rfl⟩
set_option maxHeartbeats 1000000 in
theorem strings_IndexByte.calls (a0 : ByteArray) (a1 : Int) (r : Int) (w : World) (h : strings_IndexByte.f a0 a1 = some r) :
    Calls Try.prog 29 #[.string a0, .int .u8 a1] w fun e w' => e = .returned (.int .i64 r) ∧ Drawn0 w w' := by
  injection h with h
  subst h
  go_enter Try.func29, Try.ntmps29
  go_wp2_with (go_at_call 31; refine (stringslite_IndexByte_any _ _ _).mono ?_; rintro e w' ⟨rfl, rfl⟩)
  go_ret
  exact ⟨rfl, Drawn0.refl _⟩

/-! ### pkt_number: function 27 -/
def pkt_number.l0 : Nat → ByteArray → Int → Int → Option (Int)
  | 0, _, _, _ => none
  | k + 1, x0, x3, x9 => if x9 < 4 then (if 0 ≤ x9 then (if x9 < (x0.size : Int) then ((strings_IndexByte.f (⟨#[48, 49, 50, 51, 52, 53, 54, 55, 56, 57, 97, 98, 99, 100, 101, 102]⟩ : ByteArray) (bt x0 x9)).bind fun t227 => (if t227 < 0 then (some (-1)) else (pkt_number.l0 k x0 (Go.bits .or .i64 (wrap64 (x3 * 16)) t227) (wrap64 (x9 + 1))))) else (none)) else (none)) else (some x3)
def pkt_number.f (k : Nat) (a0 : ByteArray) : Option (Int) := if (a0.size : Int) < 4 then (some (-1)) else (pkt_number.l0 k a0 0 0)
theorem pkt_number.mono_l : ∀ k, (∀ y0 y1 y2, LeO (pkt_number.l0 k y0 y1 y2) (pkt_number.l0 (k + 1) y0 y1 y2))
  | 0 => fun _ _ _ r h => by simp [pkt_number.l0] at h
  | k + 1 => by
    have ih0 := pkt_number.mono_l k
    · intro y0 y1 y2
      unfold pkt_number.l0
      repeat' first
      | (with_reducible exact ih0 _ _ _)
      | (with_reducible exact LeO.refl _)
      | (with_reducible exact LeO.none _)
      | (with_reducible refine LeO.ite ?_ ?_)
      | (with_reducible refine LeO.bind ?_ (fun _ => ?_))
      | exact ih0 _ _ _
      | exact LeO.none _
      | refine LeO.ite ?_ ?_
      | refine LeO.bind ?_ (fun _ => ?_)
theorem pkt_number.mono : ∀ a0 k, LeO (pkt_number.f k a0) (pkt_number.f (k + 1) a0) := by
  intro a0 k
  have ih0 := pkt_number.mono_l k
  unfold pkt_number.f
  repeat' first
      | (with_reducible exact ih0 _ _ _)
      | (with_reducible exact LeO.refl _)
      | (with_reducible exact LeO.none _)
      | (with_reducible refine LeO.ite ?_ ?_)
      | (with_reducible refine LeO.bind ?_ (fun _ => ?_))
      | exact ih0 _ _ _
      | exact LeO.none _
      | refine LeO.ite ?_ ?_
      | refine LeO.bind ?_ (fun _ => ?_)
set_option maxHeartbeats 8000000 in
set_option maxRecDepth 100000 in
theorem pkt_number.calls (k : Nat) (a0 : ByteArray) (r : Int) (w : World) (h : pkt_number.f k a0 = some r) :
    Calls Try.prog 27 #[.string a0] w fun e w' => e = .returned (.int .i64 r) ∧ Drawn0 w w' := by
  have H : (if (a0.size : Int) < 4 then (some (-1)) else (pkt_number.l0 k a0 0 0)) = some r := h
  clear h
  by_cases c2 : (a0.size : Int) < 4
  · rw [if_pos c2] at H
    have c2b0 : decide ((a0.size : Int) < 4) = true := decide_eq_true c2
    have c2b1 : decide (a0.size < 4) = true := decide_eq_true (by omega)
    clear c2
    obtain rfl := Option.some.inj H
    go_enter Try.func27, Try.ntmps27
    go_wp2
    go_ret
    exact ⟨by first | rfl | (simp; done) | (simp; omega) | (simp [*]; done), by repeat (first | exact Drawn0.refl _ | apply Drawn0.step)⟩
  · rw [if_neg c2] at H
    have c2b0 : decide ((a0.size : Int) < 4) = false := decide_eq_false c2
    have c2b1 : decide (a0.size < 4) = false := decide_eq_false (by omega)
    clear c2
    have H' := Aside0.mk H
    clear H
    go_enter Try.func27, Try.ntmps27
    go_wp2
    go_loopg [3, 9] k (fun kq v3 v9 w' => ∃ (x3_1 : Int) (x9_1 : Int), v3 = .int .i64 x3_1 ∧ v9 = .int .i64 x9_1 ∧ Aside0 (pkt_number.l0 kq a0 x3_1 x9_1 = some r) ∧ Aside0 (kq ≤ k) ∧ Drawn0 w w')
    case atStart => exact ⟨(0), (0), (by first | rfl | (simp; done) | (simp; omega) | (simp [*]; done)), (by first | rfl | (simp; done) | (simp; omega) | (simp [*]; done)), H', ⟨Nat.le_refl _⟩, by repeat (first | exact Drawn0.refl _ | apply Drawn0.step)⟩
    case round =>
      clear H'
      try clear c2
      try clear c2b0
      try clear c2b1
      try clear p2
      obtain ⟨x3_1, x9_1, rfl, rfl, HA, HK1, ⟨m1, rfl⟩⟩ := hrel
      cases gk with
      | zero => exact absurd HA.out (by simp [pkt_number.l0])
      | succ k1 =>
        have H := HA.out
        clear HA
        simp only [pkt_number.l0] at H
        by_cases c3 : x9_1 < 4
        · rw [if_pos c3] at H
          have c3b0 : decide (x9_1 < 4) = true := decide_eq_true c3
          clear c3
          by_cases c4 : 0 ≤ x9_1
          · rw [if_pos c4] at H
            have c4b0 : decide (0 ≤ x9_1) = true := decide_eq_true c4
            clear c4
            by_cases c5 : x9_1 < (a0.size : Int)
            · rw [if_pos c5] at H
              have c5b0 : decide (x9_1 < (a0.size : Int)) = true := decide_eq_true c5
              clear c5
              replace H := Option.bind_eq_some_iff.mp H
              obtain ⟨t227, A70, H⟩ := H
              replace H : (if t227 < 0 then (some (-1)) else (pkt_number.l0 k1 a0 (Go.bits .or .i64 (wrap64 (x3_1 * 16)) t227) (wrap64 (x9_1 + 1)))) = some r := H
              have A7 := Aside0.mk A70
              clear A70
              by_cases c8 : t227 < 0
              · rw [if_pos c8] at H
                have c8b0 : decide (t227 < 0) = true := decide_eq_true c8
                clear c8
                obtain rfl := Option.some.inj H
                have p6 : 0 ≤ (x9_1 : Int) := of_decide_eq_true (by first | (with_reducible assumption) | assumption)
                have q6 : x9_1 < (a0.size : Int) := of_decide_eq_true (by first | (with_reducible assumption) | assumption)
                have hx6 := bt_at a0 x9_1
                replace p6 := eq_true p6
                replace q6 := eq_true q6
                go_wp2_with (first | ((with_reducible refine gate_callee (f := 29) rfl ?_); refine goesL_ (some 15) rfl rfl Try.func29 (by kernel_rfl) rfl #[.string (⟨#[48, 49, 50, 51, 52, 53, 54, 55, 56, 57, 97, 98, 99, 100, 101, 102]⟩ : ByteArray), .int .u8 (bt a0 x9_1)] rfl (by (try simp only [List.map_toArray, List.map_cons, List.map_nil]); first | done | rfl | (simp only [List.length_drop, List.length_take]; rfl)) ?_; (with_reducible refine (strings_IndexByte.calls (⟨#[48, 49, 50, 51, 52, 53, 54, 55, 56, 57, 97, 98, 99, 100, 101, 102]⟩ : ByteArray) (bt a0 x9_1) t227 _ A7.out).mono ?_); rintro e w' ⟨rfl, ⟨nd, rfl⟩⟩; refine ⟨_, rfl, ?_⟩))
                go_ret
                exact ⟨by first | rfl | (simp; done) | (simp; omega) | (simp [*]; done), by repeat (first | exact Drawn0.refl _ | apply Drawn0.step)⟩
              · rw [if_neg c8] at H
                have c8b0 : decide (t227 < 0) = false := decide_eq_false c8
                clear c8
                have H' := Aside0.mk H
                clear H
                have p6 : 0 ≤ (x9_1 : Int) := of_decide_eq_true (by first | (with_reducible assumption) | assumption)
                have q6 : x9_1 < (a0.size : Int) := of_decide_eq_true (by first | (with_reducible assumption) | assumption)
                have hx6 := bt_at a0 x9_1
                replace p6 := eq_true p6
                replace q6 := eq_true q6
                go_wp2_with (first | ((with_reducible refine gate_callee (f := 29) rfl ?_); refine goesL_ (some 15) rfl rfl Try.func29 (by kernel_rfl) rfl #[.string (⟨#[48, 49, 50, 51, 52, 53, 54, 55, 56, 57, 97, 98, 99, 100, 101, 102]⟩ : ByteArray), .int .u8 (bt a0 x9_1)] rfl (by (try simp only [List.map_toArray, List.map_cons, List.map_nil]); first | done | rfl | (simp only [List.length_drop, List.length_take]; rfl)) ?_; (with_reducible refine (strings_IndexByte.calls (⟨#[48, 49, 50, 51, 52, 53, 54, 55, 56, 57, 97, 98, 99, 100, 101, 102]⟩ : ByteArray) (bt a0 x9_1) t227 _ A7.out).mono ?_); rintro e w' ⟨rfl, ⟨nd, rfl⟩⟩; refine ⟨_, rfl, ?_⟩))
                go_roundg k1
                case measure => have := HK1.out; omega
                case rel => exact ⟨(Go.bits .or .i64 (wrap64 (x3_1 * 16)) t227), (wrap64 (x9_1 + 1)), (by first | rfl | (simp; done) | (simp; omega) | (simp [*]; done)), (by first | rfl | (simp; done) | (simp; omega) | (simp [*]; done)), H', ⟨by have := HK1.out; omega⟩, by repeat (first | exact Drawn0.refl _ | apply Drawn0.step)⟩
            · rw [if_neg c5] at H
              exact absurd H (by simp)
          · rw [if_neg c4] at H
            exact absurd H (by simp)
        · rw [if_neg c3] at H
          have c3b0 : decide (x9_1 < 4) = false := decide_eq_false c3
          clear c3
          obtain rfl := Option.some.inj H
          go_wp2
          go_ret
          exact ⟨by first | rfl | (simp; done) | (simp; omega) | (simp [*]; done), by repeat (first | exact Drawn0.refl _ | apply Drawn0.step)⟩

end Go.Proofs.Ytkhbapchkfmocaa.PA
