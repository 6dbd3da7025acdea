/- The law's step, way by way. Printed by wip/gen_step.py. -/
import Derived.Test.YtnmnplbjhejejaaLk5
set_option linter.unusedVariables false
set_option linter.unusedSimpArgs false
namespace Go.Proofs.Ytnmnplbjhejejaa.Lk
open Go.RowKit Go.Proofs.YtnmnplbjhejejaaW.PrintWords Go.Proofs.YtnmnplbjhejejaaW.PrintLast Go.Proofs.YtnmnplbjhejejaaW.PrintMore Go.Proofs.Ytnmnplbjhejejaa.PA
attribute [local go_sem] max2_int min2_int max_two min_two max_three min_three max_four min_four

set_option maxHeartbeats 8000000 in
set_option maxRecDepth 100000 in
theorem step_send1_ (k B : Nat) (w0 : World) (n : Nat) (V : NV) (N : NS) (x0 x1 x3 x4 x5 : Int) (x2 : ByteArray) (w : World) (h : NetB B w0 w n V N) (ps : List (ByteArray × Bool)) (hw : Int.tmod x0 6 = 0) (ht : Int.tmod x1 2 = 1) (hs : sendF k (N.e 1).parts x2 = some ps) (hlen : (N.l 3).length ≤ 1000000) :
    Calls Try.prog 36 #[.pointer (some ⟨n, 0, none⟩), .agg #[.int .u8 x0, .int .u8 x1, .string x2, .int .u8 x3, .int .u8 x4, .int .u8 x5]] w fun e w' => e = .returned (.tuple #[]) ∧ ∃ V', NetB B w0 w' n V' { N with e := upd N.e 1 { N.e 1 with parts := ps }, l := upd N.l 3 (N.l 3 ++ [x2]) } := by
  have HN := Aside0.mk h
  obtain ⟨c0, c1, c2, c3, c4, c5, c6, c7, c8, cf, hnlt⟩ := h.net.facts
  have HS := Aside0.mk hs
  clear cf h hs
  have d1 : decide (Int.tmod x1 2 = 1) = true := decide_eq_true ht
  go_enter Try.func36, Try.ntmps36
  go_wp2
  go_region_with ((go_at_call 47; refine (send_calls k (V.b 1) (V.p 1) (N.e 1) x2 ps _ (by repeat (first | (with_reducible exact HN.out.net.ends 1) | apply IsEnd.drew | apply IsEnd.alloc)) HS.out).mono ?_; rintro e w6 ⟨rfl, pv6, hE6, hK6, hF6⟩; have HN6 := Aside0.mk (NetB.end_ (B := B) (w0 := w0) (V := V) (N := N) (n := n) (by repeat (first | (with_reducible exact HN.out) | apply NetB.drew | apply NetB.alloc)) 1 hE6 hK6 hF6); have HX6 := Aside0.mk (NetB.far (g := w.heap.size) (o := .cells (stepCells x0 x1 x2 x3 x4 x5) 66 (0, 0)) HN.out 1 (Nat.le_refl _) hK6 (heap_alloc_new w _)); clear hE6 hK6 hF6))
  all_goals
    clear c0 c1 c2 c3 c4 c5 c6 c7 c8 hnlt
    obtain ⟨c0, c1, c2, c3, c4, c5, c6, c7, c8, cf, hnlt⟩ := HN6.out.net.facts
    have ff := cf 5
    obtain ⟨z2, z3, z4, z5, hzlt⟩ := stepFacts HX6.out
    clear cf
    have hbig : (N.l 3).length + 1 ≤ maxLen ∧ ((N.l 3).length + 1) * 16 ≤ 140737488355328 := ⟨by simp only [maxLen]; omega, by omega⟩
    have hone : ∀ u ∈ [Value.string x2], u.oneCell' = true := by intro u hu; simp at hu; rcases hu with rfl; rfl
    go_wp2
    go_region_law ((refine step_append_rw _ (by rfl) _ _ _ (by rfl) 9 _ 1 16 u60 info9_ (by rfl) (V.v 3) (N.l 3).length (scells (N.l 3)) (by rfl) (Rw.alloc (HN6.out.net.rows 3) _) ⟨w6.heap.size, 0, none⟩ 1 1 [.string x2] (by rfl) (by rfl) (World.news_of_block (heap_alloc_new w6 _)) hone (by omega) hbig ?_; intro g off cap w1 hrow hgrow hat; have y1 := (keep_grown hgrow c5 ff hnlt (fun e => HN6.out.net.vn 3 e.symm)).1; have yf := (keep_grown hgrow c5 ff hnlt (fun e => HN6.out.net.vn 3 e.symm)).2))
  all_goals
    go_wp2
    go_end0
    exact ⟨rfl, _, NetB.append HN6.out 3 hrow hgrow hat⟩

set_option maxHeartbeats 8000000 in
set_option maxRecDepth 100000 in
theorem step_still0_3 (k B : Nat) (w0 : World) (n : Nat) (V : NV) (N : NS) (x0 x1 x3 x4 x5 : Int) (x2 : ByteArray) (w : World) (h : NetB B w0 w n V N) (hw : Int.tmod x0 6 = 3) (ht : Int.tmod x1 2 = 0) (h0 : (N.l 0).length = 0) :
    Calls Try.prog 36 #[.pointer (some ⟨n, 0, none⟩), .agg #[.int .u8 x0, .int .u8 x1, .string x2, .int .u8 x3, .int .u8 x4, .int .u8 x5]] w fun e w' => e = .returned (.tuple #[]) ∧ ∃ V', NetB B w0 w' n V' N := by
  have HN := Aside0.mk h
  obtain ⟨c0, c1, c2, c3, c4, c5, c6, c7, c8, cf, hnlt⟩ := h.net.facts
  obtain ⟨A, cc, hv, _, _⟩ := (h.net.rows 0).form
  rw [h0] at hv
  rw [hv] at c2
  clear cf h hv
  have d1 : decide (Int.tmod x1 2 = 0) = true := decide_eq_true ht
  go_enter Try.func36, Try.ntmps36
  go_wp2
  all_goals
    go_end0
    exact ⟨rfl, _, (by repeat (first | (with_reducible exact HN.out) | apply NetB.drew | apply NetB.alloc))⟩

set_option maxHeartbeats 8000000 in
set_option maxRecDepth 100000 in
theorem step_still0_4 (k B : Nat) (w0 : World) (n : Nat) (V : NV) (N : NS) (x0 x1 x3 x4 x5 : Int) (x2 : ByteArray) (w : World) (h : NetB B w0 w n V N) (hw : Int.tmod x0 6 = 4) (ht : Int.tmod x1 2 = 0) (h0 : (N.l 0).length = 0) :
    Calls Try.prog 36 #[.pointer (some ⟨n, 0, none⟩), .agg #[.int .u8 x0, .int .u8 x1, .string x2, .int .u8 x3, .int .u8 x4, .int .u8 x5]] w fun e w' => e = .returned (.tuple #[]) ∧ ∃ V', NetB B w0 w' n V' N := by
  have HN := Aside0.mk h
  obtain ⟨c0, c1, c2, c3, c4, c5, c6, c7, c8, cf, hnlt⟩ := h.net.facts
  obtain ⟨A, cc, hv, _, _⟩ := (h.net.rows 0).form
  rw [h0] at hv
  rw [hv] at c2
  clear cf h hv
  have d1 : decide (Int.tmod x1 2 = 0) = true := decide_eq_true ht
  go_enter Try.func36, Try.ntmps36
  go_wp2
  all_goals
    go_end0
    exact ⟨rfl, _, (by repeat (first | (with_reducible exact HN.out) | apply NetB.drew | apply NetB.alloc))⟩

set_option maxHeartbeats 8000000 in
set_option maxRecDepth 100000 in
theorem step_still0_5 (k B : Nat) (w0 : World) (n : Nat) (V : NV) (N : NS) (x0 x1 x3 x4 x5 : Int) (x2 : ByteArray) (w : World) (h : NetB B w0 w n V N) (hw : Int.tmod x0 6 = 5) (ht : Int.tmod x1 2 = 0) (h0 : (N.l 0).length = 0) :
    Calls Try.prog 36 #[.pointer (some ⟨n, 0, none⟩), .agg #[.int .u8 x0, .int .u8 x1, .string x2, .int .u8 x3, .int .u8 x4, .int .u8 x5]] w fun e w' => e = .returned (.tuple #[]) ∧ ∃ V', NetB B w0 w' n V' N := by
  have HN := Aside0.mk h
  obtain ⟨c0, c1, c2, c3, c4, c5, c6, c7, c8, cf, hnlt⟩ := h.net.facts
  obtain ⟨A, cc, hv, _, _⟩ := (h.net.rows 0).form
  rw [h0] at hv
  rw [hv] at c2
  clear cf h hv
  have d1 : decide (Int.tmod x1 2 = 0) = true := decide_eq_true ht
  go_enter Try.func36, Try.ntmps36
  go_wp2
  all_goals
    go_end0
    exact ⟨rfl, _, (by repeat (first | (with_reducible exact HN.out) | apply NetB.drew | apply NetB.alloc))⟩

set_option maxHeartbeats 8000000 in
set_option maxRecDepth 100000 in
theorem step_still1_3 (k B : Nat) (w0 : World) (n : Nat) (V : NV) (N : NS) (x0 x1 x3 x4 x5 : Int) (x2 : ByteArray) (w : World) (h : NetB B w0 w n V N) (hw : Int.tmod x0 6 = 3) (ht : Int.tmod x1 2 = 1) (h0 : (N.l 1).length = 0) :
    Calls Try.prog 36 #[.pointer (some ⟨n, 0, none⟩), .agg #[.int .u8 x0, .int .u8 x1, .string x2, .int .u8 x3, .int .u8 x4, .int .u8 x5]] w fun e w' => e = .returned (.tuple #[]) ∧ ∃ V', NetB B w0 w' n V' N := by
  have HN := Aside0.mk h
  obtain ⟨c0, c1, c2, c3, c4, c5, c6, c7, c8, cf, hnlt⟩ := h.net.facts
  obtain ⟨A, cc, hv, _, _⟩ := (h.net.rows 1).form
  rw [h0] at hv
  rw [hv] at c3
  clear cf h hv
  have d1 : decide (Int.tmod x1 2 = 1) = true := decide_eq_true ht
  go_enter Try.func36, Try.ntmps36
  go_wp2
  all_goals
    go_end0
    exact ⟨rfl, _, (by repeat (first | (with_reducible exact HN.out) | apply NetB.drew | apply NetB.alloc))⟩

set_option maxHeartbeats 8000000 in
set_option maxRecDepth 100000 in
theorem step_still1_4 (k B : Nat) (w0 : World) (n : Nat) (V : NV) (N : NS) (x0 x1 x3 x4 x5 : Int) (x2 : ByteArray) (w : World) (h : NetB B w0 w n V N) (hw : Int.tmod x0 6 = 4) (ht : Int.tmod x1 2 = 1) (h0 : (N.l 1).length = 0) :
    Calls Try.prog 36 #[.pointer (some ⟨n, 0, none⟩), .agg #[.int .u8 x0, .int .u8 x1, .string x2, .int .u8 x3, .int .u8 x4, .int .u8 x5]] w fun e w' => e = .returned (.tuple #[]) ∧ ∃ V', NetB B w0 w' n V' N := by
  have HN := Aside0.mk h
  obtain ⟨c0, c1, c2, c3, c4, c5, c6, c7, c8, cf, hnlt⟩ := h.net.facts
  obtain ⟨A, cc, hv, _, _⟩ := (h.net.rows 1).form
  rw [h0] at hv
  rw [hv] at c3
  clear cf h hv
  have d1 : decide (Int.tmod x1 2 = 1) = true := decide_eq_true ht
  go_enter Try.func36, Try.ntmps36
  go_wp2
  all_goals
    go_end0
    exact ⟨rfl, _, (by repeat (first | (with_reducible exact HN.out) | apply NetB.drew | apply NetB.alloc))⟩

set_option maxHeartbeats 8000000 in
set_option maxRecDepth 100000 in
theorem step_still1_5 (k B : Nat) (w0 : World) (n : Nat) (V : NV) (N : NS) (x0 x1 x3 x4 x5 : Int) (x2 : ByteArray) (w : World) (h : NetB B w0 w n V N) (hw : Int.tmod x0 6 = 5) (ht : Int.tmod x1 2 = 1) (h0 : (N.l 1).length = 0) :
    Calls Try.prog 36 #[.pointer (some ⟨n, 0, none⟩), .agg #[.int .u8 x0, .int .u8 x1, .string x2, .int .u8 x3, .int .u8 x4, .int .u8 x5]] w fun e w' => e = .returned (.tuple #[]) ∧ ∃ V', NetB B w0 w' n V' N := by
  have HN := Aside0.mk h
  obtain ⟨c0, c1, c2, c3, c4, c5, c6, c7, c8, cf, hnlt⟩ := h.net.facts
  obtain ⟨A, cc, hv, _, _⟩ := (h.net.rows 1).form
  rw [h0] at hv
  rw [hv] at c3
  clear cf h hv
  have d1 : decide (Int.tmod x1 2 = 1) = true := decide_eq_true ht
  go_enter Try.func36, Try.ntmps36
  go_wp2
  all_goals
    go_end0
    exact ⟨rfl, _, (by repeat (first | (with_reducible exact HN.out) | apply NetB.drew | apply NetB.alloc))⟩
end Go.Proofs.Ytnmnplbjhejejaa.Lk
