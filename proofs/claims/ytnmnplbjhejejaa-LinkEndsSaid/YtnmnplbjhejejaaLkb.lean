/- The law's step, way by way. Printed by wip/gen_step.py. -/
import Derived.Test.YtnmnplbjhejejaaLk5
set_option linter.unusedVariables false
set_option linter.unusedSimpArgs false
namespace Go.Proofs.Ytnmnplbjhejejaa.Lk
open Go.RowKit Go.Proofs.YtnmnplbjhejejaaW.PrintWords Go.Proofs.YtnmnplbjhejejaaW.PrintLast Go.Proofs.YtnmnplbjhejejaaW.PrintMore Go.Proofs.Ytnmnplbjhejejaa.PA
attribute [local go_sem] max2_int min2_int max_two min_two max_three min_three max_four min_four

set_option maxHeartbeats 8000000 in
set_option maxRecDepth 100000 in
theorem step_recv1_3_one (k B : Nat) (w0 : World) (n : Nat) (V : NV) (N : NS) (x0 x1 x3 x4 x5 : Int) (x2 : ByteArray) (w : World) (h : NetB B w0 w n V N) (s : ByteArray) (E' : En) (m : ByteArray) (j g off cap : Nat) (hx3 : 0 ≤ x3 ∧ x3 ≤ 255) (hv : V.v 1 = .slice (some ⟨g, off, none⟩) (N.l 1).length cap) (hcap : (N.l 1).length ≤ cap) (hpos : 0 < (N.l 1).length) (hlen : (N.l 1).length ≤ 1000000) (hj : j < (N.l 1).length) (hjm : Int.tmod x3 ((N.l 1).length : Int) = (j : Int)) (hsj : (N.l 1)[j]? = some s) (hfine : N.fine = true) (hw : Int.tmod x0 6 = 3) (ht : Int.tmod x1 2 = 1) (hs : recvF k (N.e 1) s = some (E', [m], true)) (hlen2 : (N.l 5).length ≤ 1000000) :
    Calls Try.prog 36 #[.pointer (some ⟨n, 0, none⟩), .agg #[.int .u8 x0, .int .u8 x1, .string x2, .int .u8 x3, .int .u8 x4, .int .u8 x5]] w fun e w' => e = .returned (.tuple #[]) ∧ ∃ V', NetB B w0 w' n V' { N with e := upd N.e 1 E', l := upd N.l 5 (N.l 5 ++ [m]), fine := true } := by
  have HN := Aside0.mk h
  obtain ⟨c0, c1, c2, c3, c4, c5, c6, c7, c8, cf, hnlt⟩ := h.net.facts
  have HS := Aside0.mk hs
  have HV := Aside0.mk hv
  have HF := Aside0.mk hfine
  have HJ := Aside0.mk hsj
  have hcell := Rw.cell_at (by have := h.net.rows 1; rw [hv] at this; exact this) hsj
  rw [hv] at c3
  have e1 : (0 : Int) ≤ (j : Int) := by omega
  have e2 : (j : Int) < ((N.l 1).length : Int) := by omega
  have e3 : IntKind.i64.wrap x3 = x3 := by simp [IntKind.wrap, IntKind.bits, IntKind.signed]; omega
  have e4 : (0 : Int) < ((N.l 1).length : Int) := by omega
  have e5 : decide ((0 : Int) < ((N.l 1).length : Int)) = true := decide_eq_true e4
  have e6 : (((N.l 1).length : Int) == 0) = false := beq_eq_false_iff_ne.mpr (by omega)
  have e7 : decide (0 < (N.l 1).length) = true := decide_eq_true hpos
  have e8 : ((N.l 1).length = 0) = False := eq_false (by omega)
  have e9 : (((N.l 1).length : Int) = 0) = False := eq_false (by omega)
  clear cf h hs hv hfine hsj
  have d1 : decide (Int.tmod x1 2 = 1) = true := decide_eq_true ht
  have k0 := World.new_ne w ⟨n, 1, none⟩ c1
  have k2 := World.new_ne w ⟨n, 3, none⟩ c3
  go_enter Try.func36, Try.ntmps36
  go_wp2
  go_region_held3 (fun w' => w'.cell? ⟨n, 1, none⟩ = some (.pointer (some ⟨V.b 1, 0, none⟩)) ∧ w'.cell? ⟨n, 3, none⟩ = some (.slice (some ⟨g, off, none⟩) (N.l 1).length cap) ∧ w'.cell? ⟨w.heap.size, 3, none⟩ = some (.int .u8 x3) ∧ w'.cell? ⟨g, off + j, none⟩ = some (.string s)) (first | go_keep | exact HQ6)
    (first | (go_at_call 39; refine (recv_calls k (V.b 1) (V.p 1) (N.e 1) E' s [m] true _ (by repeat (first | (with_reducible exact HN.out.net.ends 1) | apply IsEnd.drew | apply IsEnd.alloc)) HS.out).mono ?_; rintro e w6 ⟨tv, pv6, rfl, hE6, hK6, hR6, hT6, hT6', hP6⟩; obtain ⟨g2, off2, cap2, rfl, hcap2, hc2⟩ := hR6.form2 (by simp); have h2 : w6.cell? ⟨g2, off2, none⟩ = some (.string m) := hc2 0 _ rfl; clear hc2; have HN6 := Aside0.mk (NetB.end_ (B := B) (w0 := w0) (V := V) (N := N) (n := n) (by repeat (first | (with_reducible exact HN.out) | apply NetB.drew | apply NetB.alloc)) 1 hE6 (hK6.mono (fun _ _ x => .inl x)) (fun g hg => .inl (hP6 g hg))); have HX6 := Aside0.mk (NetB.far (g := w.heap.size) (o := .cells (stepCells x0 x1 x2 x3 x4 x5) 66 (0, 0)) HN.out 1 (Nat.le_refl _) (hK6.mono (fun _ _ x => .inl x)) (heap_alloc_new w _)); have HQ6 := recv_keep1 (V := V) (N := N) HN6.out HX6.out HV.out HJ.out; clear hE6 hK6 hR6 hT6 hT6' hP6))
  all_goals
    clear HQ6 c0 c1 c2 c3 c4 c5 c6 c7 c8 hnlt hcell
    obtain ⟨c0, c1, c2, c3, c4, c5, c6, c7, c8', cf, hnlt⟩ := HN6.out.net.facts
    have c8 : w6.cell? ⟨n, 8, none⟩ = some (.bool true) := by rw [← HF.out]; exact c8'
    have ff := cf 7
    have ff8 := cf 8
    clear cf c8'
    have hbig : (N.l 5).length + 1 ≤ maxLen ∧ ((N.l 5).length + 1) * 16 ≤ 140737488355328 := ⟨by simp only [maxLen]; omega, by omega⟩
    have hone : ∀ u ∈ [Value.string m], u.oneCell' = true := by intro u hu; simp at hu; rcases hu with rfl; rfl
    go_wp2
  all_goals
    go_region_law ((refine step_append_rw _ (by rfl) _ _ _ (by rfl) 9 _ 1 16 u60 info9_ (by rfl) (V.v 5) (N.l 5).length (scells (N.l 5)) (by rfl) (HN6.out.net.rows 5) ⟨g2, off2, none⟩ 1 cap2 [.string m] (by rfl) (by rfl) (news_one h2) hone (by omega) hbig ?_; intro g3 off3 cap3 w1 hrow hgrow hat; have y1 := (keep_grown_at hgrow c7 ff hnlt (fun e => HN6.out.net.vn 5 e.symm)).1; have yf := (keep_grown_at hgrow c7 ff hnlt (fun e => HN6.out.net.vn 5 e.symm)).2; have y8 := (keep_grown_at hgrow c8 ff8 hnlt (fun e => HN6.out.net.vn 5 e.symm)).1; have yf8 := (keep_grown_at hgrow c8 ff8 hnlt (fun e => HN6.out.net.vn 5 e.symm)).2))
  all_goals
    go_wp2
    go_end0
    exact ⟨rfl, _, NetB.put_fine (NetB.append_at (NetB.drew HN6.out) 5 hrow hgrow hat) true⟩

set_option maxHeartbeats 8000000 in
set_option maxRecDepth 100000 in
theorem step_recv1_3_none (k B : Nat) (w0 : World) (n : Nat) (V : NV) (N : NS) (x0 x1 x3 x4 x5 : Int) (x2 : ByteArray) (w : World) (h : NetB B w0 w n V N) (s : ByteArray) (E' : En) (j g off cap : Nat) (hx3 : 0 ≤ x3 ∧ x3 ≤ 255) (hv : V.v 1 = .slice (some ⟨g, off, none⟩) (N.l 1).length cap) (hcap : (N.l 1).length ≤ cap) (hpos : 0 < (N.l 1).length) (hlen : (N.l 1).length ≤ 1000000) (hj : j < (N.l 1).length) (hjm : Int.tmod x3 ((N.l 1).length : Int) = (j : Int)) (hsj : (N.l 1)[j]? = some s) (hfine : N.fine = true) (hw : Int.tmod x0 6 = 3) (ht : Int.tmod x1 2 = 1) (hs : recvF k (N.e 1) s = some (E', [], true)) (hlen2 : (N.l 5).length ≤ 1000000) :
    Calls Try.prog 36 #[.pointer (some ⟨n, 0, none⟩), .agg #[.int .u8 x0, .int .u8 x1, .string x2, .int .u8 x3, .int .u8 x4, .int .u8 x5]] w fun e w' => e = .returned (.tuple #[]) ∧ ∃ V', NetB B w0 w' n V' { N with e := upd N.e 1 E', l := upd N.l 5 (N.l 5 ++ []), fine := true } := by
  have HN := Aside0.mk h
  obtain ⟨c0, c1, c2, c3, c4, c5, c6, c7, c8, cf, hnlt⟩ := h.net.facts
  have HS := Aside0.mk hs
  have HV := Aside0.mk hv
  have HF := Aside0.mk hfine
  have HJ := Aside0.mk hsj
  have hcell := Rw.cell_at (by have := h.net.rows 1; rw [hv] at this; exact this) hsj
  rw [hv] at c3
  have e1 : (0 : Int) ≤ (j : Int) := by omega
  have e2 : (j : Int) < ((N.l 1).length : Int) := by omega
  have e3 : IntKind.i64.wrap x3 = x3 := by simp [IntKind.wrap, IntKind.bits, IntKind.signed]; omega
  have e4 : (0 : Int) < ((N.l 1).length : Int) := by omega
  have e5 : decide ((0 : Int) < ((N.l 1).length : Int)) = true := decide_eq_true e4
  have e6 : (((N.l 1).length : Int) == 0) = false := beq_eq_false_iff_ne.mpr (by omega)
  have e7 : decide (0 < (N.l 1).length) = true := decide_eq_true hpos
  have e8 : ((N.l 1).length = 0) = False := eq_false (by omega)
  have e9 : (((N.l 1).length : Int) = 0) = False := eq_false (by omega)
  clear cf h hs hv hfine hsj
  have d1 : decide (Int.tmod x1 2 = 1) = true := decide_eq_true ht
  obtain ⟨AT, cT, hvT, _, _⟩ := (HN.out.net.rows 5).form
  have HVT := Aside0.mk hvT
  clear hvT
  have k0 := World.new_ne w ⟨n, 1, none⟩ c1
  have k2 := World.new_ne w ⟨n, 3, none⟩ c3
  go_enter Try.func36, Try.ntmps36
  go_wp2
  go_region_held3 (fun w' => w'.cell? ⟨n, 1, none⟩ = some (.pointer (some ⟨V.b 1, 0, none⟩)) ∧ w'.cell? ⟨n, 3, none⟩ = some (.slice (some ⟨g, off, none⟩) (N.l 1).length cap) ∧ w'.cell? ⟨w.heap.size, 3, none⟩ = some (.int .u8 x3) ∧ w'.cell? ⟨g, off + j, none⟩ = some (.string s)) (first | go_keep | exact HQ6)
    (first | (go_at_call 39; refine (recv_calls k (V.b 1) (V.p 1) (N.e 1) E' s [] true _ (by repeat (first | (with_reducible exact HN.out.net.ends 1) | apply IsEnd.drew | apply IsEnd.alloc)) HS.out).mono ?_; rintro e w6 ⟨tv, pv6, rfl, hE6, hK6, hR6, hT6, hT6', hP6⟩; obtain rfl := hT6' rfl; have HN6 := Aside0.mk (NetB.end_ (B := B) (w0 := w0) (V := V) (N := N) (n := n) (by repeat (first | (with_reducible exact HN.out) | apply NetB.drew | apply NetB.alloc)) 1 hE6 (hK6.mono (fun _ _ x => .inl x)) (fun g hg => .inl (hP6 g hg))); have HX6 := Aside0.mk (NetB.far (g := w.heap.size) (o := .cells (stepCells x0 x1 x2 x3 x4 x5) 66 (0, 0)) HN.out 1 (Nat.le_refl _) (hK6.mono (fun _ _ x => .inl x)) (heap_alloc_new w _)); have HQ6 := recv_keep1 (V := V) (N := N) HN6.out HX6.out HV.out HJ.out; clear hE6 hK6 hR6 hT6 hT6' hP6))
  all_goals
    clear HQ6 c0 c1 c2 c3 c4 c5 c6 c7 c8 hnlt hcell
    obtain ⟨c0, c1, c2, c3, c4, c5, c6, c7, c8', cf, hnlt⟩ := HN6.out.net.facts
    have c8 : w6.cell? ⟨n, 8, none⟩ = some (.bool true) := by rw [← HF.out]; exact c8'
    have ff := cf 7
    have ff8 := cf 8
    clear cf c8'
    have cT6 : w6.cell? ⟨n, 7, none⟩ = some (.slice AT (N.l 5).length cT) := by rw [← HVT.out]; exact c7
    have HRT := Aside0.mk (show Rw w6 9 1 (.slice AT (N.l 5).length cT) (N.l 5).length (scells (N.l 5)) by rw [← HVT.out]; exact HN6.out.net.rows 5)
    clear c7
    go_wp2
  all_goals
    go_region_law ((refine step_append_zero _ (by rfl) _ _ _ (by rfl) 9 1 u60 (by kernel_rfl) (.slice AT (N.l 5).length cT) (N.l 5).length (scells (N.l 5)) (by rfl) HRT.out (by rfl) ?_))
  all_goals
    go_wp2
    go_end0
    exact ⟨rfl, _, NetB.put_fine (NetB.append_none' (NetB.drew HN6.out) 5 HVT.out) true⟩

set_option maxHeartbeats 8000000 in
set_option maxRecDepth 100000 in
theorem step_recv1_4_one (k B : Nat) (w0 : World) (n : Nat) (V : NV) (N : NS) (x0 x1 x3 x4 x5 : Int) (x2 : ByteArray) (w : World) (h : NetB B w0 w n V N) (s : ByteArray) (E' : En) (m : ByteArray) (j g off cap : Nat) (hx3 : 0 ≤ x3 ∧ x3 ≤ 255) (hv : V.v 1 = .slice (some ⟨g, off, none⟩) (N.l 1).length cap) (hcap : (N.l 1).length ≤ cap) (hpos : 0 < (N.l 1).length) (hlen : (N.l 1).length ≤ 1000000) (hj : j < (N.l 1).length) (hjm : Int.tmod x3 ((N.l 1).length : Int) = (j : Int)) (hsj : (N.l 1)[j]? = some s) (hfine : N.fine = true) (hw : Int.tmod x0 6 = 4) (ht : Int.tmod x1 2 = 1) (hs : recvF k (N.e 1) s = some (E', [m], true)) (hlen2 : (N.l 5).length ≤ 1000000) :
    Calls Try.prog 36 #[.pointer (some ⟨n, 0, none⟩), .agg #[.int .u8 x0, .int .u8 x1, .string x2, .int .u8 x3, .int .u8 x4, .int .u8 x5]] w fun e w' => e = .returned (.tuple #[]) ∧ ∃ V', NetB B w0 w' n V' { N with e := upd N.e 1 E', l := upd N.l 5 (N.l 5 ++ [m]), fine := true } := by
  have HN := Aside0.mk h
  obtain ⟨c0, c1, c2, c3, c4, c5, c6, c7, c8, cf, hnlt⟩ := h.net.facts
  have HS := Aside0.mk hs
  have HV := Aside0.mk hv
  have HF := Aside0.mk hfine
  have HJ := Aside0.mk hsj
  have hcell := Rw.cell_at (by have := h.net.rows 1; rw [hv] at this; exact this) hsj
  rw [hv] at c3
  have e1 : (0 : Int) ≤ (j : Int) := by omega
  have e2 : (j : Int) < ((N.l 1).length : Int) := by omega
  have e3 : IntKind.i64.wrap x3 = x3 := by simp [IntKind.wrap, IntKind.bits, IntKind.signed]; omega
  have e4 : (0 : Int) < ((N.l 1).length : Int) := by omega
  have e5 : decide ((0 : Int) < ((N.l 1).length : Int)) = true := decide_eq_true e4
  have e6 : (((N.l 1).length : Int) == 0) = false := beq_eq_false_iff_ne.mpr (by omega)
  have e7 : decide (0 < (N.l 1).length) = true := decide_eq_true hpos
  have e8 : ((N.l 1).length = 0) = False := eq_false (by omega)
  have e9 : (((N.l 1).length : Int) = 0) = False := eq_false (by omega)
  clear cf h hs hv hfine hsj
  have d1 : decide (Int.tmod x1 2 = 1) = true := decide_eq_true ht
  have k0 := World.new_ne w ⟨n, 1, none⟩ c1
  have k2 := World.new_ne w ⟨n, 3, none⟩ c3
  go_enter Try.func36, Try.ntmps36
  go_wp2
  go_region_held3 (fun w' => w'.cell? ⟨n, 1, none⟩ = some (.pointer (some ⟨V.b 1, 0, none⟩)) ∧ w'.cell? ⟨n, 3, none⟩ = some (.slice (some ⟨g, off, none⟩) (N.l 1).length cap) ∧ w'.cell? ⟨w.heap.size, 3, none⟩ = some (.int .u8 x3) ∧ w'.cell? ⟨g, off + j, none⟩ = some (.string s)) (first | go_keep | exact HQ6)
    (first | (go_at_call 39; refine (recv_calls k (V.b 1) (V.p 1) (N.e 1) E' s [m] true _ (by repeat (first | (with_reducible exact HN.out.net.ends 1) | apply IsEnd.drew | apply IsEnd.alloc)) HS.out).mono ?_; rintro e w6 ⟨tv, pv6, rfl, hE6, hK6, hR6, hT6, hT6', hP6⟩; obtain ⟨g2, off2, cap2, rfl, hcap2, hc2⟩ := hR6.form2 (by simp); have h2 : w6.cell? ⟨g2, off2, none⟩ = some (.string m) := hc2 0 _ rfl; clear hc2; have HN6 := Aside0.mk (NetB.end_ (B := B) (w0 := w0) (V := V) (N := N) (n := n) (by repeat (first | (with_reducible exact HN.out) | apply NetB.drew | apply NetB.alloc)) 1 hE6 (hK6.mono (fun _ _ x => .inl x)) (fun g hg => .inl (hP6 g hg))); have HX6 := Aside0.mk (NetB.far (g := w.heap.size) (o := .cells (stepCells x0 x1 x2 x3 x4 x5) 66 (0, 0)) HN.out 1 (Nat.le_refl _) (hK6.mono (fun _ _ x => .inl x)) (heap_alloc_new w _)); have HQ6 := recv_keep1 (V := V) (N := N) HN6.out HX6.out HV.out HJ.out; clear hE6 hK6 hR6 hT6 hT6' hP6))
  all_goals
    clear HQ6 c0 c1 c2 c3 c4 c5 c6 c7 c8 hnlt hcell
    obtain ⟨c0, c1, c2, c3, c4, c5, c6, c7, c8', cf, hnlt⟩ := HN6.out.net.facts
    have c8 : w6.cell? ⟨n, 8, none⟩ = some (.bool true) := by rw [← HF.out]; exact c8'
    have ff := cf 7
    have ff8 := cf 8
    clear cf c8'
    have hbig : (N.l 5).length + 1 ≤ maxLen ∧ ((N.l 5).length + 1) * 16 ≤ 140737488355328 := ⟨by simp only [maxLen]; omega, by omega⟩
    have hone : ∀ u ∈ [Value.string m], u.oneCell' = true := by intro u hu; simp at hu; rcases hu with rfl; rfl
    go_wp2
  all_goals
    go_region_law ((refine step_append_rw _ (by rfl) _ _ _ (by rfl) 9 _ 1 16 u60 info9_ (by rfl) (V.v 5) (N.l 5).length (scells (N.l 5)) (by rfl) (HN6.out.net.rows 5) ⟨g2, off2, none⟩ 1 cap2 [.string m] (by rfl) (by rfl) (news_one h2) hone (by omega) hbig ?_; intro g3 off3 cap3 w1 hrow hgrow hat; have y1 := (keep_grown_at hgrow c7 ff hnlt (fun e => HN6.out.net.vn 5 e.symm)).1; have yf := (keep_grown_at hgrow c7 ff hnlt (fun e => HN6.out.net.vn 5 e.symm)).2; have y8 := (keep_grown_at hgrow c8 ff8 hnlt (fun e => HN6.out.net.vn 5 e.symm)).1; have yf8 := (keep_grown_at hgrow c8 ff8 hnlt (fun e => HN6.out.net.vn 5 e.symm)).2))
  all_goals
    go_wp2
    go_end0
    exact ⟨rfl, _, NetB.put_fine (NetB.append_at (NetB.drew HN6.out) 5 hrow hgrow hat) true⟩

set_option maxHeartbeats 8000000 in
set_option maxRecDepth 100000 in
theorem step_recv1_4_none (k B : Nat) (w0 : World) (n : Nat) (V : NV) (N : NS) (x0 x1 x3 x4 x5 : Int) (x2 : ByteArray) (w : World) (h : NetB B w0 w n V N) (s : ByteArray) (E' : En) (j g off cap : Nat) (hx3 : 0 ≤ x3 ∧ x3 ≤ 255) (hv : V.v 1 = .slice (some ⟨g, off, none⟩) (N.l 1).length cap) (hcap : (N.l 1).length ≤ cap) (hpos : 0 < (N.l 1).length) (hlen : (N.l 1).length ≤ 1000000) (hj : j < (N.l 1).length) (hjm : Int.tmod x3 ((N.l 1).length : Int) = (j : Int)) (hsj : (N.l 1)[j]? = some s) (hfine : N.fine = true) (hw : Int.tmod x0 6 = 4) (ht : Int.tmod x1 2 = 1) (hs : recvF k (N.e 1) s = some (E', [], true)) (hlen2 : (N.l 5).length ≤ 1000000) :
    Calls Try.prog 36 #[.pointer (some ⟨n, 0, none⟩), .agg #[.int .u8 x0, .int .u8 x1, .string x2, .int .u8 x3, .int .u8 x4, .int .u8 x5]] w fun e w' => e = .returned (.tuple #[]) ∧ ∃ V', NetB B w0 w' n V' { N with e := upd N.e 1 E', l := upd N.l 5 (N.l 5 ++ []), fine := true } := by
  have HN := Aside0.mk h
  obtain ⟨c0, c1, c2, c3, c4, c5, c6, c7, c8, cf, hnlt⟩ := h.net.facts
  have HS := Aside0.mk hs
  have HV := Aside0.mk hv
  have HF := Aside0.mk hfine
  have HJ := Aside0.mk hsj
  have hcell := Rw.cell_at (by have := h.net.rows 1; rw [hv] at this; exact this) hsj
  rw [hv] at c3
  have e1 : (0 : Int) ≤ (j : Int) := by omega
  have e2 : (j : Int) < ((N.l 1).length : Int) := by omega
  have e3 : IntKind.i64.wrap x3 = x3 := by simp [IntKind.wrap, IntKind.bits, IntKind.signed]; omega
  have e4 : (0 : Int) < ((N.l 1).length : Int) := by omega
  have e5 : decide ((0 : Int) < ((N.l 1).length : Int)) = true := decide_eq_true e4
  have e6 : (((N.l 1).length : Int) == 0) = false := beq_eq_false_iff_ne.mpr (by omega)
  have e7 : decide (0 < (N.l 1).length) = true := decide_eq_true hpos
  have e8 : ((N.l 1).length = 0) = False := eq_false (by omega)
  have e9 : (((N.l 1).length : Int) = 0) = False := eq_false (by omega)
  clear cf h hs hv hfine hsj
  have d1 : decide (Int.tmod x1 2 = 1) = true := decide_eq_true ht
  obtain ⟨AT, cT, hvT, _, _⟩ := (HN.out.net.rows 5).form
  have HVT := Aside0.mk hvT
  clear hvT
  have k0 := World.new_ne w ⟨n, 1, none⟩ c1
  have k2 := World.new_ne w ⟨n, 3, none⟩ c3
  go_enter Try.func36, Try.ntmps36
  go_wp2
  go_region_held3 (fun w' => w'.cell? ⟨n, 1, none⟩ = some (.pointer (some ⟨V.b 1, 0, none⟩)) ∧ w'.cell? ⟨n, 3, none⟩ = some (.slice (some ⟨g, off, none⟩) (N.l 1).length cap) ∧ w'.cell? ⟨w.heap.size, 3, none⟩ = some (.int .u8 x3) ∧ w'.cell? ⟨g, off + j, none⟩ = some (.string s)) (first | go_keep | exact HQ6)
    (first | (go_at_call 39; refine (recv_calls k (V.b 1) (V.p 1) (N.e 1) E' s [] true _ (by repeat (first | (with_reducible exact HN.out.net.ends 1) | apply IsEnd.drew | apply IsEnd.alloc)) HS.out).mono ?_; rintro e w6 ⟨tv, pv6, rfl, hE6, hK6, hR6, hT6, hT6', hP6⟩; obtain rfl := hT6' rfl; have HN6 := Aside0.mk (NetB.end_ (B := B) (w0 := w0) (V := V) (N := N) (n := n) (by repeat (first | (with_reducible exact HN.out) | apply NetB.drew | apply NetB.alloc)) 1 hE6 (hK6.mono (fun _ _ x => .inl x)) (fun g hg => .inl (hP6 g hg))); have HX6 := Aside0.mk (NetB.far (g := w.heap.size) (o := .cells (stepCells x0 x1 x2 x3 x4 x5) 66 (0, 0)) HN.out 1 (Nat.le_refl _) (hK6.mono (fun _ _ x => .inl x)) (heap_alloc_new w _)); have HQ6 := recv_keep1 (V := V) (N := N) HN6.out HX6.out HV.out HJ.out; clear hE6 hK6 hR6 hT6 hT6' hP6))
  all_goals
    clear HQ6 c0 c1 c2 c3 c4 c5 c6 c7 c8 hnlt hcell
    obtain ⟨c0, c1, c2, c3, c4, c5, c6, c7, c8', cf, hnlt⟩ := HN6.out.net.facts
    have c8 : w6.cell? ⟨n, 8, none⟩ = some (.bool true) := by rw [← HF.out]; exact c8'
    have ff := cf 7
    have ff8 := cf 8
    clear cf c8'
    have cT6 : w6.cell? ⟨n, 7, none⟩ = some (.slice AT (N.l 5).length cT) := by rw [← HVT.out]; exact c7
    have HRT := Aside0.mk (show Rw w6 9 1 (.slice AT (N.l 5).length cT) (N.l 5).length (scells (N.l 5)) by rw [← HVT.out]; exact HN6.out.net.rows 5)
    clear c7
    go_wp2
  all_goals
    go_region_law ((refine step_append_zero _ (by rfl) _ _ _ (by rfl) 9 1 u60 (by kernel_rfl) (.slice AT (N.l 5).length cT) (N.l 5).length (scells (N.l 5)) (by rfl) HRT.out (by rfl) ?_))
  all_goals
    go_wp2
    go_end0
    exact ⟨rfl, _, NetB.put_fine (NetB.append_none' (NetB.drew HN6.out) 5 HVT.out) true⟩
end Go.Proofs.Ytnmnplbjhejejaa.Lk
