/- The law's step, way by way. Printed by wip/gen_step.py. -/
import Derived.Test.YtnmnplbjhejejaaLk5
set_option linter.unusedVariables false
set_option linter.unusedSimpArgs false
namespace Go.Proofs.Ytnmnplbjhejejaa.Lk
open Go.RowKit Go.Proofs.YtnmnplbjhejejaaW.PrintWords Go.Proofs.YtnmnplbjhejejaaW.PrintLast Go.Proofs.YtnmnplbjhejejaaW.PrintMore Go.Proofs.Ytnmnplbjhejejaa.PA
attribute [local go_sem] max2_int min2_int max_two min_two max_three min_three max_four min_four

set_option maxHeartbeats 8000000 in
set_option maxRecDepth 100000 in
theorem step_tick0_1 (k B : Nat) (w0 : World) (n : Nat) (V : NV) (N : NS) (x0 x1 x3 x4 x5 : Int) (x2 : ByteArray) (w : World) (h : NetB B w0 w n V N) (s : ByteArray) (hw : Int.tmod x0 6 = 1) (ht : Int.tmod x1 2 = 0) (hs : tickF k (N.e 0) = some s) (hlen : (N.l 1).length ≤ 1000000) :
    Calls Try.prog 36 #[.pointer (some ⟨n, 0, none⟩), .agg #[.int .u8 x0, .int .u8 x1, .string x2, .int .u8 x3, .int .u8 x4, .int .u8 x5]] w fun e w' => e = .returned (.tuple #[]) ∧ ∃ V', NetB B w0 w' n V' { N with l := upd N.l 1 (N.l 1 ++ [s]) } := by
  have HN := Aside0.mk h
  obtain ⟨c0, c1, c2, c3, c4, c5, c6, c7, c8, cf, hnlt⟩ := h.net.facts
  have HS := Aside0.mk hs
  have ff := cf 3
  clear cf h hs
  have d1 : decide (Int.tmod x1 2 = 0) = true := decide_eq_true ht
  have hbig : (N.l 1).length + 1 ≤ maxLen ∧ ((N.l 1).length + 1) * 16 ≤ 140737488355328 := ⟨by simp only [maxLen]; omega, by omega⟩
  have hone : ∀ u ∈ [Value.string s], u.oneCell' = true := by intro u hu; simp at hu; rcases hu with rfl; rfl
  have ww : wrap64 (1 - 0) = 1 := by simp [wrap64, IntKind.wrap, IntKind.bits, IntKind.signed]
  have wx : IntKind.i64.wrap 1 = 1 := by simp [wrap64, IntKind.wrap, IntKind.bits, IntKind.signed]
  go_enter Try.func36, Try.ntmps36
  go_wp2
  go_region_law (first | (refine step_append_rw _ (by rfl) _ _ _ (by rfl) 9 _ 1 16 u60 info9_ (by rfl) (V.v 1) (N.l 1).length (scells (N.l 1)) (by rfl) (Rw.alloc (HN6.out.net.rows 1) _) ⟨w6.heap.size, 0, none⟩ 1 1 [.string s] (by rfl) (by rfl) (World.news_of_block (heap_alloc_new w6 _)) hone (by omega) hbig ?_; intro g off cap w1 hrow hgrow0 hat; have hgrow : (w6.alloc (.cells #[.string s] 9)).drew.grownBy w1 (V.v 1).ownBlock := (by first | exact hgrow0 | exact grown_drew hgrow0); clear hgrow0; have y1 := (keep_grown hgrow e3 e9 e10 (fun e => HN6.out.net.vn 1 e.symm)).1; have yf := (keep_grown hgrow e3 e9 e10 (fun e => HN6.out.net.vn 1 e.symm)).2) | (go_simp; go_at_call 40; refine (tick_calls k (V.b 0) (V.p 0) (N.e 0) s _ (by repeat (first | (with_reducible exact HN.out.net.ends 0) | apply IsEnd.drew | apply IsEnd.alloc)) HS.out).mono ?_; rintro e w6 ⟨rfl, hb6⟩; have HN6 := Aside0.mk (NetB.below (B := B) (w0 := w0) (V := V) (N := N) (n := n) (by repeat (first | (with_reducible exact HN.out) | apply NetB.drew | apply NetB.alloc)) hb6); obtain ⟨e0, e1, e2, e3, e4, e5, e6, e7, e8, ef, e10⟩ := HN6.out.net.facts; have e9 := ef 3; clear hb6))
  all_goals
    go_wp2
    go_end0
    exact ⟨rfl, _, NetB.append HN6.out 1 hrow hgrow hat⟩

set_option maxHeartbeats 8000000 in
set_option maxRecDepth 100000 in
theorem step_tick0_2 (k B : Nat) (w0 : World) (n : Nat) (V : NV) (N : NS) (x0 x1 x3 x4 x5 : Int) (x2 : ByteArray) (w : World) (h : NetB B w0 w n V N) (s : ByteArray) (hw : Int.tmod x0 6 = 2) (ht : Int.tmod x1 2 = 0) (hs : tickF k (N.e 0) = some s) (hlen : (N.l 1).length ≤ 1000000) :
    Calls Try.prog 36 #[.pointer (some ⟨n, 0, none⟩), .agg #[.int .u8 x0, .int .u8 x1, .string x2, .int .u8 x3, .int .u8 x4, .int .u8 x5]] w fun e w' => e = .returned (.tuple #[]) ∧ ∃ V', NetB B w0 w' n V' { N with l := upd N.l 1 (N.l 1 ++ [s]) } := by
  have HN := Aside0.mk h
  obtain ⟨c0, c1, c2, c3, c4, c5, c6, c7, c8, cf, hnlt⟩ := h.net.facts
  have HS := Aside0.mk hs
  have ff := cf 3
  clear cf h hs
  have d1 : decide (Int.tmod x1 2 = 0) = true := decide_eq_true ht
  have hbig : (N.l 1).length + 1 ≤ maxLen ∧ ((N.l 1).length + 1) * 16 ≤ 140737488355328 := ⟨by simp only [maxLen]; omega, by omega⟩
  have hone : ∀ u ∈ [Value.string s], u.oneCell' = true := by intro u hu; simp at hu; rcases hu with rfl; rfl
  have ww : wrap64 (1 - 0) = 1 := by simp [wrap64, IntKind.wrap, IntKind.bits, IntKind.signed]
  have wx : IntKind.i64.wrap 1 = 1 := by simp [wrap64, IntKind.wrap, IntKind.bits, IntKind.signed]
  go_enter Try.func36, Try.ntmps36
  go_wp2
  go_region_law (first | (refine step_append_rw _ (by rfl) _ _ _ (by rfl) 9 _ 1 16 u60 info9_ (by rfl) (V.v 1) (N.l 1).length (scells (N.l 1)) (by rfl) (Rw.alloc (HN6.out.net.rows 1) _) ⟨w6.heap.size, 0, none⟩ 1 1 [.string s] (by rfl) (by rfl) (World.news_of_block (heap_alloc_new w6 _)) hone (by omega) hbig ?_; intro g off cap w1 hrow hgrow0 hat; have hgrow : (w6.alloc (.cells #[.string s] 9)).drew.grownBy w1 (V.v 1).ownBlock := (by first | exact hgrow0 | exact grown_drew hgrow0); clear hgrow0; have y1 := (keep_grown hgrow e3 e9 e10 (fun e => HN6.out.net.vn 1 e.symm)).1; have yf := (keep_grown hgrow e3 e9 e10 (fun e => HN6.out.net.vn 1 e.symm)).2) | (go_simp; go_at_call 40; refine (tick_calls k (V.b 0) (V.p 0) (N.e 0) s _ (by repeat (first | (with_reducible exact HN.out.net.ends 0) | apply IsEnd.drew | apply IsEnd.alloc)) HS.out).mono ?_; rintro e w6 ⟨rfl, hb6⟩; have HN6 := Aside0.mk (NetB.below (B := B) (w0 := w0) (V := V) (N := N) (n := n) (by repeat (first | (with_reducible exact HN.out) | apply NetB.drew | apply NetB.alloc)) hb6); obtain ⟨e0, e1, e2, e3, e4, e5, e6, e7, e8, ef, e10⟩ := HN6.out.net.facts; have e9 := ef 3; clear hb6))
  all_goals
    go_wp2
    go_end0
    exact ⟨rfl, _, NetB.append HN6.out 1 hrow hgrow hat⟩

set_option maxHeartbeats 8000000 in
set_option maxRecDepth 100000 in
theorem step_tick1_1 (k B : Nat) (w0 : World) (n : Nat) (V : NV) (N : NS) (x0 x1 x3 x4 x5 : Int) (x2 : ByteArray) (w : World) (h : NetB B w0 w n V N) (s : ByteArray) (hw : Int.tmod x0 6 = 1) (ht : Int.tmod x1 2 = 1) (hs : tickF k (N.e 1) = some s) (hlen : (N.l 0).length ≤ 1000000) :
    Calls Try.prog 36 #[.pointer (some ⟨n, 0, none⟩), .agg #[.int .u8 x0, .int .u8 x1, .string x2, .int .u8 x3, .int .u8 x4, .int .u8 x5]] w fun e w' => e = .returned (.tuple #[]) ∧ ∃ V', NetB B w0 w' n V' { N with l := upd N.l 0 (N.l 0 ++ [s]) } := by
  have HN := Aside0.mk h
  obtain ⟨c0, c1, c2, c3, c4, c5, c6, c7, c8, cf, hnlt⟩ := h.net.facts
  have HS := Aside0.mk hs
  have ff := cf 2
  clear cf h hs
  have d1 : decide (Int.tmod x1 2 = 1) = true := decide_eq_true ht
  have hbig : (N.l 0).length + 1 ≤ maxLen ∧ ((N.l 0).length + 1) * 16 ≤ 140737488355328 := ⟨by simp only [maxLen]; omega, by omega⟩
  have hone : ∀ u ∈ [Value.string s], u.oneCell' = true := by intro u hu; simp at hu; rcases hu with rfl; rfl
  have ww : wrap64 (1 - 1) = 0 := by simp [wrap64, IntKind.wrap, IntKind.bits, IntKind.signed]
  have wx : IntKind.i64.wrap 0 = 0 := by simp [wrap64, IntKind.wrap, IntKind.bits, IntKind.signed]
  go_enter Try.func36, Try.ntmps36
  go_wp2
  go_region_law (first | (refine step_append_rw _ (by rfl) _ _ _ (by rfl) 9 _ 1 16 u60 info9_ (by rfl) (V.v 0) (N.l 0).length (scells (N.l 0)) (by rfl) (Rw.alloc (HN6.out.net.rows 0) _) ⟨w6.heap.size, 0, none⟩ 1 1 [.string s] (by rfl) (by rfl) (World.news_of_block (heap_alloc_new w6 _)) hone (by omega) hbig ?_; intro g off cap w1 hrow hgrow0 hat; have hgrow : (w6.alloc (.cells #[.string s] 9)).drew.grownBy w1 (V.v 0).ownBlock := (by first | exact hgrow0 | exact grown_drew hgrow0); clear hgrow0; have y1 := (keep_grown hgrow e2 e9 e10 (fun e => HN6.out.net.vn 0 e.symm)).1; have yf := (keep_grown hgrow e2 e9 e10 (fun e => HN6.out.net.vn 0 e.symm)).2) | (go_simp; go_at_call 40; refine (tick_calls k (V.b 1) (V.p 1) (N.e 1) s _ (by repeat (first | (with_reducible exact HN.out.net.ends 1) | apply IsEnd.drew | apply IsEnd.alloc)) HS.out).mono ?_; rintro e w6 ⟨rfl, hb6⟩; have HN6 := Aside0.mk (NetB.below (B := B) (w0 := w0) (V := V) (N := N) (n := n) (by repeat (first | (with_reducible exact HN.out) | apply NetB.drew | apply NetB.alloc)) hb6); obtain ⟨e0, e1, e2, e3, e4, e5, e6, e7, e8, ef, e10⟩ := HN6.out.net.facts; have e9 := ef 2; clear hb6))
  all_goals
    go_wp2
    go_end0
    exact ⟨rfl, _, NetB.append HN6.out 0 hrow hgrow hat⟩

set_option maxHeartbeats 8000000 in
set_option maxRecDepth 100000 in
theorem step_tick1_2 (k B : Nat) (w0 : World) (n : Nat) (V : NV) (N : NS) (x0 x1 x3 x4 x5 : Int) (x2 : ByteArray) (w : World) (h : NetB B w0 w n V N) (s : ByteArray) (hw : Int.tmod x0 6 = 2) (ht : Int.tmod x1 2 = 1) (hs : tickF k (N.e 1) = some s) (hlen : (N.l 0).length ≤ 1000000) :
    Calls Try.prog 36 #[.pointer (some ⟨n, 0, none⟩), .agg #[.int .u8 x0, .int .u8 x1, .string x2, .int .u8 x3, .int .u8 x4, .int .u8 x5]] w fun e w' => e = .returned (.tuple #[]) ∧ ∃ V', NetB B w0 w' n V' { N with l := upd N.l 0 (N.l 0 ++ [s]) } := by
  have HN := Aside0.mk h
  obtain ⟨c0, c1, c2, c3, c4, c5, c6, c7, c8, cf, hnlt⟩ := h.net.facts
  have HS := Aside0.mk hs
  have ff := cf 2
  clear cf h hs
  have d1 : decide (Int.tmod x1 2 = 1) = true := decide_eq_true ht
  have hbig : (N.l 0).length + 1 ≤ maxLen ∧ ((N.l 0).length + 1) * 16 ≤ 140737488355328 := ⟨by simp only [maxLen]; omega, by omega⟩
  have hone : ∀ u ∈ [Value.string s], u.oneCell' = true := by intro u hu; simp at hu; rcases hu with rfl; rfl
  have ww : wrap64 (1 - 1) = 0 := by simp [wrap64, IntKind.wrap, IntKind.bits, IntKind.signed]
  have wx : IntKind.i64.wrap 0 = 0 := by simp [wrap64, IntKind.wrap, IntKind.bits, IntKind.signed]
  go_enter Try.func36, Try.ntmps36
  go_wp2
  go_region_law (first | (refine step_append_rw _ (by rfl) _ _ _ (by rfl) 9 _ 1 16 u60 info9_ (by rfl) (V.v 0) (N.l 0).length (scells (N.l 0)) (by rfl) (Rw.alloc (HN6.out.net.rows 0) _) ⟨w6.heap.size, 0, none⟩ 1 1 [.string s] (by rfl) (by rfl) (World.news_of_block (heap_alloc_new w6 _)) hone (by omega) hbig ?_; intro g off cap w1 hrow hgrow0 hat; have hgrow : (w6.alloc (.cells #[.string s] 9)).drew.grownBy w1 (V.v 0).ownBlock := (by first | exact hgrow0 | exact grown_drew hgrow0); clear hgrow0; have y1 := (keep_grown hgrow e2 e9 e10 (fun e => HN6.out.net.vn 0 e.symm)).1; have yf := (keep_grown hgrow e2 e9 e10 (fun e => HN6.out.net.vn 0 e.symm)).2) | (go_simp; go_at_call 40; refine (tick_calls k (V.b 1) (V.p 1) (N.e 1) s _ (by repeat (first | (with_reducible exact HN.out.net.ends 1) | apply IsEnd.drew | apply IsEnd.alloc)) HS.out).mono ?_; rintro e w6 ⟨rfl, hb6⟩; have HN6 := Aside0.mk (NetB.below (B := B) (w0 := w0) (V := V) (N := N) (n := n) (by repeat (first | (with_reducible exact HN.out) | apply NetB.drew | apply NetB.alloc)) hb6); obtain ⟨e0, e1, e2, e3, e4, e5, e6, e7, e8, ef, e10⟩ := HN6.out.net.facts; have e9 := ef 2; clear hb6))
  all_goals
    go_wp2
    go_end0
    exact ⟨rfl, _, NetB.append HN6.out 0 hrow hgrow hat⟩
end Go.Proofs.Ytnmnplbjhejejaa.Lk
