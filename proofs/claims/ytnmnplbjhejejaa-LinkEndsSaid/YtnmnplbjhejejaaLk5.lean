/- The law's step, as the program has it. -/
import Derived.Test.YtnmnplbjhejejaaLk4
set_option linter.unusedVariables false
set_option linter.unusedSimpArgs false
namespace Go.Proofs.Ytnmnplbjhejejaa.Lk
open Go.RowKit Go.Proofs.YtnmnplbjhejejaaW.PrintWords Go.Proofs.YtnmnplbjhejejaaW.PrintLast Go.Proofs.YtnmnplbjhejejaaW.PrintMore Go.Proofs.Ytnmnplbjhejejaa.PA
attribute [local go_sem] max2_int min2_int max_two min_two max_three min_three max_four min_four

theorem u60 : Try.prog.underlying 60 = some (.slice 9) := by kernel_rfl
theorem info9_ : (Try.prog.info? 9).map (fun i => (i.zero, i.size, i.bytes)) = some (some (.string ⟨#[]⟩), 1, 16) := by kernel_rfl
theorem scells_length (l : List ByteArray) : (scells l).length = l.length := by simp [scells]
theorem scells_append (l m : List ByteArray) : scells (l ++ m) = scells l ++ scells m := by simp [scells]
theorem IsNet.facts {w : World} {n : Nat} {V : NV} {N : NS} (h : IsNet w n V N) :
    w.cell? ⟨n, 0, none⟩ = some (.pointer (some ⟨V.b 0, 0, none⟩)) ∧ w.cell? ⟨n, 1, none⟩ = some (.pointer (some ⟨V.b 1, 0, none⟩)) ∧ w.cell? ⟨n, 2, none⟩ = some (V.v 0) ∧ w.cell? ⟨n, 3, none⟩ = some (V.v 1) ∧
      w.cell? ⟨n, 4, none⟩ = some (V.v 2) ∧ w.cell? ⟨n, 5, none⟩ = some (V.v 3) ∧ w.cell? ⟨n, 6, none⟩ = some (V.v 4) ∧ w.cell? ⟨n, 7, none⟩ = some (V.v 5) ∧ w.cell? ⟨n, 8, none⟩ = some (.bool N.fine) ∧ (∀ i, w.frozen? ⟨n, i, none⟩ = false) ∧ n < w.heap.size := by
  refine ⟨?_, ?_, ?_, ?_, ?_, ?_, ?_, ?_, ?_, ?_, h.lt⟩
  all_goals first
    | (simp [World.cell?, h.cells, netCells]; done)
    | (intro i; simp [World.frozen?, h.cells]; done)

/-- What the step is of, in memory. -/
def stepCells (x0 x1 : Int) (x2 : ByteArray) (x3 x4 x5 : Int) : Array Value := #[.int .u8 x0, .int .u8 x1, .string x2, .int .u8 x3, .int .u8 x4, .int .u8 x5]
/-- A block that is none of the net's is kept by what an end does. -/
theorem IsNet.far {w0 w w' : World} {n : Nat} {V : NV} {N : NS} (h : IsNet w0 n V N) (k : Fin 2) {g : Nat} {o : Obj} (hg : w0.heap.size ≤ g) (hk : Kp w w' (fun q => q = V.b k ∨ (V.p k).ownBlock = some q)) (ho : w.heap[g]? = some o) : w'.heap[g]? = some o :=
  hk.at ho (fun x => x.elim (fun e => by have := h.blt k; omega) (fun e => by have := h.plt k e; omega))
theorem stepFacts {W : World} {g : Nat} {x0 x1 x3 x4 x5 : Int} {x2 : ByteArray} (h : W.heap[g]? = some (.cells (stepCells x0 x1 x2 x3 x4 x5) 66 (0, 0))) :
    W.cell? ⟨g, 2, none⟩ = some (.string x2) ∧ W.cell? ⟨g, 3, none⟩ = some (.int .u8 x3) ∧ W.cell? ⟨g, 4, none⟩ = some (.int .u8 x4) ∧ W.cell? ⟨g, 5, none⟩ = some (.int .u8 x5) ∧ g < W.heap.size := by
  refine ⟨?_, ?_, ?_, ?_, (Array.getElem?_eq_some_iff.1 h).1⟩
  all_goals (simp [World.cell?, h, stepCells]; done)

theorem NetB.far {B : Nat} {w00 w0 w w' : World} {n : Nat} {V : NV} {N : NS} (h : NetB B w00 w0 n V N) (k : Fin 2) {g : Nat} {o : Obj} (hg : w0.heap.size ≤ g) (hk : Kp w w' (fun q => q = V.b k ∨ (V.p k).ownBlock = some q)) (ho : w.heap[g]? = some o) : w'.heap[g]? = some o := h.net.far k hg hk ho

theorem Rw.cell_at {w : World} {e n g off cap j : Nat} {l : List ByteArray} {s : ByteArray} (h : Rw w e 1 (.slice (some ⟨g, off, none⟩) n cap) n (scells l)) (hj : l[j]? = some s) : w.cell? ⟨g, off + j, none⟩ = some (.string s) := by
  have hl := h.1
  have hjl := (List.getElem?_eq_some_iff.mp hj).1
  rw [scells_length] at hl
  obtain ⟨g2, off2, cap2, hv, _, hc⟩ := h.form2 (by omega)
  simp only [Value.slice.injEq, Option.some.injEq, Addr.mk.injEq, and_true, true_and] at hv
  obtain ⟨⟨rfl, rfl⟩, _⟩ := hv
  exact hc j _ (by simp [scells, hj])
/-- What is read again, and again, behind what an end did. -/
theorem recv_keep {B : Nat} {w0 w' : World} {n g off cap j : Nat} {V : NV} {N : NS} {pv : Value} {E' : En} {x0 x1 x3 x4 x5 : Int} {x2 s : ByteArray} {K : Fin 2} {hs : Nat} (h : NetB B w0 w' n { V with p := upd V.p K pv } { N with e := upd N.e K E' })
    (hx : w'.heap[hs]? = some (.cells (stepCells x0 x1 x2 x3 x4 x5) 66 (0, 0))) (i : Fin 2) (hv : V.v ⟨i.val, by omega⟩ = .slice (some ⟨g, off, none⟩) (N.l ⟨i.val, by omega⟩).length cap) (hj : (N.l ⟨i.val, by omega⟩)[j]? = some s) :
    w'.cell? ⟨n, i.val, none⟩ = some (.pointer (some ⟨V.b i, 0, none⟩)) ∧ w'.cell? ⟨n, 2 + i.val, none⟩ = some (.slice (some ⟨g, off, none⟩) (N.l ⟨i.val, by omega⟩).length cap) ∧ w'.cell? ⟨hs, 3, none⟩ = some (.int .u8 x3) ∧ w'.cell? ⟨g, off + j, none⟩ = some (.string s) := by
  obtain ⟨c0, c1, c2, c3, c4, c5, c6, c7, c8, cf, hnlt⟩ := h.net.facts
  obtain ⟨z2, z3, z4, z5, hzlt⟩ := stepFacts hx
  have hr := h.net.rows ⟨i.val, by omega⟩
  refine ⟨?_, ?_, z3, ?_⟩
  · match i with
    | 0 => exact c0
    | 1 => exact c1
  · rw [← hv]
    match i with
    | 0 => exact c2
    | 1 => exact c3
  · refine Rw.cell_at (e := 9) (n := (N.l ⟨i.val, by omega⟩).length) (cap := cap) (l := N.l ⟨i.val, by omega⟩) ?_ hj
    rw [← hv]
    exact hr
theorem recv_keep0 {B : Nat} {w0 w' : World} {n g off cap j : Nat} {V : NV} {N : NS} {pv : Value} {E' : En} {x0 x1 x3 x4 x5 : Int} {x2 s : ByteArray} {hs : Nat} (h : NetB B w0 w' n { V with p := upd V.p 0 pv } { N with e := upd N.e 0 E' })
    (hx : w'.heap[hs]? = some (.cells (stepCells x0 x1 x2 x3 x4 x5) 66 (0, 0))) (hv : V.v 0 = .slice (some ⟨g, off, none⟩) (N.l 0).length cap) (hj : (N.l 0)[j]? = some s) :
    w'.cell? ⟨n, 0, none⟩ = some (.pointer (some ⟨V.b 0, 0, none⟩)) ∧ w'.cell? ⟨n, 2, none⟩ = some (.slice (some ⟨g, off, none⟩) (N.l 0).length cap) ∧ w'.cell? ⟨hs, 3, none⟩ = some (.int .u8 x3) ∧ w'.cell? ⟨g, off + j, none⟩ = some (.string s) :=
  recv_keep (V := V) (N := N) (K := 0) h hx 0 hv hj
theorem recv_keep1 {B : Nat} {w0 w' : World} {n g off cap j : Nat} {V : NV} {N : NS} {pv : Value} {E' : En} {x0 x1 x3 x4 x5 : Int} {x2 s : ByteArray} {hs : Nat} (h : NetB B w0 w' n { V with p := upd V.p 1 pv } { N with e := upd N.e 1 E' })
    (hx : w'.heap[hs]? = some (.cells (stepCells x0 x1 x2 x3 x4 x5) 66 (0, 0))) (hv : V.v 1 = .slice (some ⟨g, off, none⟩) (N.l 1).length cap) (hj : (N.l 1)[j]? = some s) :
    w'.cell? ⟨n, 1, none⟩ = some (.pointer (some ⟨V.b 1, 0, none⟩)) ∧ w'.cell? ⟨n, 3, none⟩ = some (.slice (some ⟨g, off, none⟩) (N.l 1).length cap) ∧ w'.cell? ⟨hs, 3, none⟩ = some (.int .u8 x3) ∧ w'.cell? ⟨g, off + j, none⟩ = some (.string s) :=
  recv_keep (V := V) (N := N) (K := 1) h hx 1 hv hj
theorem NetB.append_none' {B : Nat} {w0 w : World} {n : Nat} {V : NV} {N : NS} (h : NetB B w0 w n V N) (i : Fin 6) {v : Value} (hv : V.v i = v) : NetB B w0 (w.setCell ⟨n, 2 + i.val, none⟩ v) n { V with v := upd V.v i v } { N with l := upd N.l i (N.l i ++ []) } := by
  subst hv
  exact h.append_none i
theorem keep_grown_at {w w1 : World} {a : Addr} {v : Value} {row : Option Nat} (hg : w.drew.grownBy w1 row) (h : w.cell? a = some v) (f : w.frozen? a = false) (hlt : a.block < w.heap.size) (hne : some a.block ≠ row) :
    w1.cell? a = some v ∧ w1.frozen? a = false :=
  ⟨(hg.cell_far a hlt hne).trans h, (hg.frozen_far a hlt hne).trans f⟩
theorem news_one {w : World} {g off : Nat} {v : Value} (h : w.cell? ⟨g, off, none⟩ = some v) : ∀ j u, [v][j]? = some u → w.cell? ((⟨g, off, none⟩ : Addr).add j) = some u := by
  intro j u hj
  match j with
  | 0 =>
    simp only [List.length_cons, List.getElem?_cons_zero, Option.some.injEq] at hj
    subst hj
    rw [add_]
    exact h
  | j + 1 => simp at hj

set_option maxHeartbeats 8000000 in
set_option maxRecDepth 100000 in
theorem step_send0 (k B : Nat) (w0 : World) (n : Nat) (V : NV) (N : NS) (x0 x1 x3 x4 x5 : Int) (x2 : ByteArray) (ps : List (ByteArray × Bool)) (w : World) (h : NetB B w0 w n V N) (hw : Int.tmod x0 6 = 0) (ht : Int.tmod x1 2 = 0) (hs : sendF k (N.e 0).parts x2 = some ps) (hlen : (N.l 2).length ≤ 1000000) :
    Calls Try.prog 36 #[.pointer (some ⟨n, 0, none⟩), .agg #[.int .u8 x0, .int .u8 x1, .string x2, .int .u8 x3, .int .u8 x4, .int .u8 x5]] w fun e w' => e = .returned (.tuple #[]) ∧
      ∃ V', NetB B w0 w' n V' { N with e := upd N.e 0 { N.e 0 with parts := ps }, l := upd N.l 2 (N.l 2 ++ [x2]) } := by
  have HN := Aside0.mk h
  have HS := Aside0.mk hs
  obtain ⟨c0, c1, c2, c3, c4, c5, c6, c7, c8, cf, hnlt⟩ := h.net.facts
  have f4 := cf 4
  clear cf h hs
  have d1 : decide (Int.tmod x1 2 = 0) = true := decide_eq_true ht
  go_enter Try.func36, Try.ntmps36
  go_wp2
  go_region_with ((go_at_call 47; refine (send_calls k (V.b 0) (V.p 0) (N.e 0) x2 ps _ (by repeat (first | (with_reducible exact HN.out.net.ends 0) | apply IsEnd.drew | apply IsEnd.alloc)) HS.out).mono ?_; rintro e w6 ⟨rfl, pv6, hE6, hK6, hF6⟩; have HN6 := Aside0.mk (NetB.end_ (B := B) (w0 := w0) (V := V) (N := N) (n := n) (by repeat (first | (with_reducible exact HN.out) | apply NetB.drew | apply NetB.alloc)) 0 hE6 hK6 hF6); have HX6 := Aside0.mk (NetB.far (g := w.heap.size) (o := .cells (stepCells x0 x1 x2 x3 x4 x5) 66 (0, 0)) HN.out 0 (Nat.le_refl _) hK6 (heap_alloc_new w _)); clear hE6 hK6 hF6))
  all_goals
    clear c0 c1 c2 c3 c4 c5 c6 c7 c8 f4 hnlt
    obtain ⟨c0, c1, c2, c3, c4, c5, c6, c7, c8, cf, hnlt⟩ := HN6.out.net.facts
    have f4 := cf 4
    obtain ⟨z2, z3, z4, z5, hzlt⟩ := stepFacts HX6.out
    clear cf
    have hbig : (N.l 2).length + 1 ≤ maxLen ∧ ((N.l 2).length + 1) * 16 ≤ 140737488355328 := ⟨by simp only [maxLen]; omega, by omega⟩
    have hone : ∀ u ∈ [Value.string x2], u.oneCell' = true := by intro u hu; simp at hu; rcases hu with rfl; rfl
    go_wp2
    go_region_law ((refine step_append_rw _ (by rfl) _ _ _ (by rfl) 9 _ 1 16 u60 info9_ (by rfl) (V.v 2) (N.l 2).length (scells (N.l 2)) (by rfl) (Rw.alloc (HN6.out.net.rows 2) _) ⟨w6.heap.size, 0, none⟩ 1 1 [.string x2] (by rfl) (by rfl) (World.news_of_block (heap_alloc_new w6 _)) hone (by omega) hbig ?_; intro g off cap w1 hrow hgrow hat; have y1 := (keep_grown hgrow c4 f4 hnlt (fun e => HN6.out.net.vn 2 e.symm)).1; have yf := (keep_grown hgrow c4 f4 hnlt (fun e => HN6.out.net.vn 2 e.symm)).2))
  all_goals
    go_wp2
    go_end0
    exact ⟨rfl, _, NetB.append HN6.out 2 hrow hgrow hat⟩
end Go.Proofs.Ytnmnplbjhejejaa.Lk
