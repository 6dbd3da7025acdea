import Derived.Test.YtnmnplbjhejejaaPAx14
import Derived.Test.YtnmnplbjhejejaaDe
set_option linter.unusedVariables false
set_option linter.unusedSimpArgs false
namespace Go.Proofs.Ytnmnplbjhejejaa.Pure
open Go.RowKit Go.Proofs.Ytnmnplbjhejejaa.PA Go.Proofs.YtnmnplbjhejejaaW.PrintWords Go.Proofs.YtnmnplbjhejejaaW.PrintLast Go.Proofs.Ytnmnplbjhejejaa.Base Go.Proofs.Ytnmnplbjhejejaa.Vi Go.Proofs.Ytnmnplbjhejejaa.De

namespace Ds
theorem some64 (x : Int) : ∃ n : Nat, IntKind.u64.wrap x = (n : Int) ∧ n < 18446744073709551616 := by
  rw [wu64_mod]
  exact ⟨(x % 18446744073709551616).toNat, by omega, by omega⟩
theorem rput_some (x : Int) : ∃ e : List UInt8, Ev (fun k => knapsackref01_Put.f k (IntKind.u64.wrap x)) (mkB e) ∧ e.length ≤ 10 := by
  obtain ⟨n, h, hn⟩ := some64 x
  rw [h]
  exact ⟨enc n, rput_ev n hn, enc_length10 n hn⟩
theorem delta_l0 (l : List S51) (hl : l.length ≤ 30) (h : ∀ j, j < l.length → (rd_T51 l (j : Int)).f2.size ≤ 100) (d : Nat) : ∀ (i : Nat) (s : List UInt8), l.length - i ≤ d → i ≤ l.length → s.length ≤ 20 + 110 * i →
    ∃ D, Ev (fun k => knapsackref06_Delta.l0 k l (mkB s) (i : Int)) (mkB D) ∧ D.length ≤ 5000 := by
  induction d with
  | zero =>
    intro i s h1 h2 h3
    refine ⟨s, ?_, by omega⟩
    refine Ev.step (fun k => by rw [knapsackref06_Delta.l0]) ?_
    exact Base.Ev.ite_neg (by omega) (Ev.now _)
  | succ d ih =>
    intro i s h1 h2 h3
    by_cases hi : i < l.length
    rotate_left
    · refine ⟨s, ?_, by omega⟩
      refine Ev.step (fun k => by rw [knapsackref06_Delta.l0]) ?_
      exact Base.Ev.ite_neg (by omega) (Ev.now _)
    have h4 := h i hi
    obtain ⟨tx, htx⟩ := exB (rd_T51 l (i : Int)).f2
    rw [htx, mkB_size] at h4
    by_cases ht : tx = []
    · obtain ⟨e1, p1, q1⟩ := rput_some (wrap64 ((wrap64 (2 * (Int.tmod ((rd_T51 l (i : Int)).f1) 100000))) + 1))
      obtain ⟨e2, p2, q2⟩ := rput_some ((rd_T51 l (i : Int)).f0)
      obtain ⟨D, d1, d2⟩ := ih (i + 1) (s ++ e1 ++ e2) (by omega) (by omega) (by simp only [List.length_append]; omega)
      refine ⟨D, ?_, d2⟩
      refine Ev.step (fun k => by rw [knapsackref06_Delta.l0]) ?_
      refine Base.Ev.ite_pos (by omega) ?_
      refine Base.Ev.ite_pos (by omega) ?_
      refine Base.Ev.ite_pos (by rw [htx, mkB_toList]; exact ht) ?_
      refine Ev.bind p1 ?_
      refine Base.Ev.ite_pos (by rw [mkB_size, mkB_size]; omega) ?_
      refine Ev.bind p2 ?_
      refine Base.Ev.ite_pos (by rw [mkB_append, mkB_size, mkB_size]; simp only [List.length_append]; omega) ?_
      rw [mkB_append, mkB_append, w64 (by omega) (by omega)]
      exact d1
    · obtain ⟨e1, p1, q1⟩ := rput_some (wrap64 (2 * (((rd_T51 l (i : Int)).f2).size : Int)))
      obtain ⟨D, d1, d2⟩ := ih (i + 1) (s ++ e1 ++ tx) (by omega) (by omega) (by simp only [List.length_append]; omega)
      refine ⟨D, ?_, d2⟩
      refine Ev.step (fun k => by rw [knapsackref06_Delta.l0]) ?_
      refine Base.Ev.ite_pos (by omega) ?_
      refine Base.Ev.ite_pos (by omega) ?_
      refine Base.Ev.ite_neg (by rw [htx, mkB_toList]; exact ht) ?_
      refine Ev.bind p1 ?_
      refine Base.Ev.ite_pos (by rw [mkB_size, mkB_size]; omega) ?_
      refine Base.Ev.ite_pos (by rw [mkB_append, htx, mkB_size, mkB_size]; simp only [List.length_append]; omega) ?_
      rw [htx, mkB_append, mkB_append, w64 (by omega) (by omega)]
      exact d1
theorem delta_ev (t0 t1 : Int) (l : List S51) (hl : l.length ≤ 30) (h : ∀ j, j < l.length → (rd_T51 l (j : Int)).f2.size ≤ 100) :
    ∃ D, Ev (fun k => knapsackref06_Delta.f k t0 t1 l) (mkB D) ∧ D.length ≤ 5000 := by
  obtain ⟨e1, p1, q1⟩ := rput_some t0
  obtain ⟨e2, p2, q2⟩ := rput_some t1
  obtain ⟨D, d1, d2⟩ := delta_l0 l hl h l.length 0 (e1 ++ e2) (by omega) (by omega) (by simp only [List.length_append]; omega)
  refine ⟨D, ?_, d2⟩
  unfold knapsackref06_Delta.f
  refine Ev.bind p1 ?_
  refine Ev.bind p2 ?_
  refine Base.Ev.ite_pos (by rw [mkB_size, mkB_size]; omega) ?_
  rw [mkB_append]
  exact d1
theorem law_l0 (base : List UInt8) (hb : base.length ≤ 400) (l : List S51) (hl : l.length ≤ 30) (t0 t1 t2 : Int) (ht : t2 ≤ 9223372036854775807) (d : Nat) : ∀ i : Nat, l.length - i ≤ d → i ≤ l.length → (∀ j, j < i → (rd_T51 l (j : Int)).f2.size ≤ 100) →
    Ev (fun k => knapsacklaw06_DeltaSteps.l0 k (mkB base) l t0 t1 t2 (i : Int)) true := by
  have fin : (∀ j, j < l.length → (rd_T51 l (j : Int)).f2.size ≤ 100) → Ev (fun k => knapsacklaw06_DeltaSteps.l0 k (mkB base) l t0 t1 t2 (l.length : Int)) true := by
    intro h
    obtain ⟨D, d1, d2⟩ := delta_ev t0 t1 l hl h
    refine Ev.step (fun k => by rw [knapsacklaw06_DeltaSteps.l0]) ?_
    refine Base.Ev.ite_neg (by omega) ?_
    refine Ev.bind d1 ?_
    refine Ev.bind (apply_ev base D t2 (by omega) (by omega) ht) ?_
    refine Ev.bind (rapply_ev base D t2 (by omega) (by omega) ht) ?_
    refine Ev.bind De.knows_ev ?_
    refine Base.Ev.ite_pos rfl ?_
    refine Base.Ev.ite_pos rfl ?_
    refine Base.Ev.eq ?_ (Ev.now _)
    simp
  induction d with
  | zero =>
    intro i h1 h2 h3
    obtain rfl : i = l.length := by omega
    exact fin h3
  | succ d ih =>
    intro i h1 h2 h3
    by_cases hi : i < l.length
    rotate_left
    · obtain rfl : i = l.length := by omega
      exact fin h3
    refine Ev.step (fun k => by rw [knapsacklaw06_DeltaSteps.l0]) ?_
    refine Base.Ev.ite_pos (by omega) ?_
    refine Base.Ev.ite_pos (by omega) ?_
    by_cases h4 : ((rd_T51 l (i : Int)).f2.size : Int) > 100
    · exact Base.Ev.ite_pos h4 De.knows_ev
    · refine Base.Ev.ite_neg h4 ?_
      by_cases h5 : (rd_T51 l (i : Int)).f1 < 0
      · exact Base.Ev.ite_pos h5 De.knows_ev
      · refine Base.Ev.ite_neg h5 ?_
        rw [w64 (by omega) (by omega)]
        refine ih (i + 1) (by omega) (by omega) ?_
        intro j hj
        rcases Nat.lt_succ_iff_lt_or_eq.1 hj with h6 | h6
        · exact h3 j h6
        · subst h6; omega
end Ds
open Ds in
theorem DeltaSteps (a0 : ByteArray) (l : List S51) (t0 t1 t2 : Int) (_ : a0.size ≤ 140737488351232) {G : Prop} (_ : G) (_ : l.length ≤ 9223372036854775807) (_ : (Lit.int .i64 t0).wf = true) (_ : (Lit.int .i64 t1).wf = true) (h2 : (Lit.int .i64 t2).wf = true) :
    ∃ k, knapsacklaw06_DeltaSteps.f k a0 l t0 t1 t2 = some true := by
  apply Ev.rounds
  have ht : t2 ≤ 9223372036854775807 := by simp [Lit.wf] at h2; omega
  obtain ⟨base, rfl⟩ := exB a0
  unfold knapsacklaw06_DeltaSteps.f
  by_cases hb : base.length ≤ 400
  rotate_left
  · exact Base.Ev.ite_pos (by rw [mkB_size]; omega) De.knows_ev
  refine Base.Ev.ite_neg (by rw [mkB_size]; omega) ?_
  by_cases hl : l.length ≤ 30
  rotate_left
  · exact Base.Ev.ite_pos (by omega) De.knows_ev
  refine Base.Ev.ite_neg (by omega) ?_
  by_cases h3 : t2 > 20000
  · exact Base.Ev.ite_pos h3 De.knows_ev
  refine Base.Ev.ite_neg h3 ?_
  exact law_l0 base hb l hl t0 t1 t2 ht l.length 0 (by omega) (by omega) (fun j hj => absurd hj (by omega))
end Go.Proofs.Ytnmnplbjhejejaa.Pure
