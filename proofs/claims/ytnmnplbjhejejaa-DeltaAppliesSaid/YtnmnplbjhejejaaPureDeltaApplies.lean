import Derived.Test.YtnmnplbjhejejaaPAx11
import Derived.Test.YtnmnplbjhejejaaDe
set_option linter.unusedVariables false
set_option linter.unusedSimpArgs false
namespace Go.Proofs.Ytnmnplbjhejejaa.Pure
open Go.RowKit Go.Proofs.Ytnmnplbjhejejaa.PA Go.Proofs.YtnmnplbjhejejaaW.PrintWords Go.Proofs.YtnmnplbjhejejaaW.PrintLast Go.Proofs.Ytnmnplbjhejejaa.Base Go.Proofs.Ytnmnplbjhejejaa.Vi Go.Proofs.Ytnmnplbjhejejaa.De

theorem DeltaApplies : knapsacklaw06_DeltaApplies.Pure := by
  intro a0 a1 a2 h0 h1 h2
  apply Ev.rounds
  obtain ⟨base, rfl⟩ := exB a0
  obtain ⟨d, rfl⟩ := exB a1
  have hm : a2 ≤ 9223372036854775807 := by simp [Lit.wf] at h2; omega
  unfold knapsacklaw06_DeltaApplies.f
  have out : Ev (fun k => knapsacklaw06_DeltaApplies.j0 k (mkB base) (mkB d) a2 true) true := by
    refine Ev.step (fun k => by rw [knapsacklaw06_DeltaApplies.j0]) ?_
    refine Base.Ev.ite_pos rfl ?_
    exact Ev.bind knows_ev (Ev.now _)
  by_cases hb : base.length ≤ 400
  rotate_left
  · exact Base.Ev.ite_pos (by rw [mkB_size]; omega) out
  refine Base.Ev.ite_neg (by rw [mkB_size]; omega) ?_
  rw [mkB_size]
  by_cases hd : d.length ≤ 400
  rotate_left
  · rw [show decide ((d.length : Int) > 400) = true by simp; omega]; exact out
  rw [show decide ((d.length : Int) > 400) = false by simp; omega]
  refine Ev.step (fun k => by rw [knapsacklaw06_DeltaApplies.j0]) ?_
  refine Base.Ev.ite_neg (by simp) ?_
  refine Ev.bind (apply_ev base d a2 (by omega) (by omega) hm) ?_
  refine Ev.bind (rapply_ev base d a2 (by omega) (by omega) hm) ?_
  refine Base.Ev.ite_pos rfl ?_
  rw [show ((applied (appl base d a2)).2 != (applied (appl base d a2)).2) = false by simp]
  refine Ev.step (fun k => by rw [knapsacklaw06_DeltaApplies.j1]) ?_
  refine Base.Ev.ite_neg (by simp) ?_
  have hs := size_ev d (by omega)
  have hg := rget_ev d (by omega)
  unfold sized heads2 at hs
  have bad : ∀ (x15 : Int), Ev (fun k => knapsacklaw06_DeltaApplies.j2 k 0 2 x15 true) true := by
    intro x15
    refine Ev.step (fun k => by rw [knapsacklaw06_DeltaApplies.j2]) ?_
    refine Base.Ev.ite_pos rfl ?_
    exact Ev.bind knows_ev (Base.Ev.ite_pos rfl (Base.Ev.ite_pos rfl (Ev.now _)))
  cases hx : dec 0 d with
  | none =>
    rw [hx] at hs hg
    refine Ev.bind (a := ((0 : Int), (2 : Int))) hs ?_
    refine Ev.bind (a := ((0 : Int), (0 : Int))) hg ?_
    dsimp only
    refine Base.Ev.ite_pos (by omega) ?_
    refine Base.Ev.ite_pos (by omega) ?_
    have hg2 := rget_ev d (by omega)
    rw [hx] at hg2
    refine Ev.bind (a := ((0 : Int), (0 : Int))) (by rw [show ((0 : Int)).toNat = 0 from rfl, mkB_drop, List.drop_zero]; exact hg2) ?_
    exact Base.Ev.ite_pos rfl (bad _)
  | some x =>
    obtain ⟨n, r⟩ := x
    have hn := dec_lt0 hx
    obtain ⟨hrl, hrd⟩ := dec_length hx
    rw [hx] at hs hg
    have hg2 := rget_ev r (by omega)
    simp only at hs
    cases hy : dec 0 r with
    | none =>
      rw [hy] at hs hg2
      refine Ev.bind (a := ((0 : Int), (2 : Int))) hs ?_
      refine Ev.bind (a := ((n : Int), ((d.length - r.length : Nat) : Int))) hg ?_
      dsimp only
      refine Base.Ev.ite_pos (by omega) ?_
      refine Base.Ev.ite_pos (by rw [mkB_size]; omega) ?_
      rw [Int.toNat_natCast, mkB_drop, hrd]
      refine Ev.bind (a := ((0 : Int), (0 : Int))) hg2 ?_
      refine Base.Ev.ite_neg (by omega) ?_
      exact Base.Ev.ite_pos rfl (bad _)
    | some y =>
      obtain ⟨s, r2⟩ := y
      have hs2 := dec_lt0 hy
      obtain ⟨hr2, hrd2⟩ := dec_length hy
      rw [hy] at hs hg2
      simp only at hs
      by_cases hbig : s > 2147483647
      · rw [if_pos hbig] at hs
        refine Ev.bind (a := ((0 : Int), (2 : Int))) hs ?_
        refine Ev.bind (a := ((n : Int), ((d.length - r.length : Nat) : Int))) hg ?_
        dsimp only
        refine Base.Ev.ite_pos (by omega) ?_
        refine Base.Ev.ite_pos (by rw [mkB_size]; omega) ?_
        rw [Int.toNat_natCast, mkB_drop, hrd]
        refine Ev.bind (a := ((s : Int), ((r.length - r2.length : Nat) : Int))) hg2 ?_
        dsimp only
        refine Base.Ev.ite_neg (by omega) ?_
        refine Base.Ev.ite_neg (by omega) ?_
        rw [show decide ((s : Int) > 2147483647) = true by simp; omega]
        exact bad _
      · rw [if_neg hbig] at hs
        refine Ev.bind (a := ((s : Int), (0 : Int))) hs ?_
        refine Ev.bind (a := ((n : Int), ((d.length - r.length : Nat) : Int))) hg ?_
        dsimp only
        refine Base.Ev.ite_pos (by omega) ?_
        refine Base.Ev.ite_pos (by rw [mkB_size]; omega) ?_
        rw [Int.toNat_natCast, mkB_drop, hrd]
        refine Ev.bind (a := ((s : Int), ((r.length - r2.length : Nat) : Int))) hg2 ?_
        dsimp only
        refine Base.Ev.ite_neg (by omega) ?_
        refine Base.Ev.ite_neg (by omega) ?_
        rw [show decide ((s : Int) > 2147483647) = false by simp; omega]
        refine Ev.step (fun k => by rw [knapsacklaw06_DeltaApplies.j2]) ?_
        refine Base.Ev.ite_neg (by simp) ?_
        refine Ev.bind knows_ev ?_
        refine Base.Ev.ite_pos rfl ?_
        refine Base.Ev.ite_pos (by rw [w64 (by omega) (by omega)]) ?_
        exact Ev.now _

end Go.Proofs.Ytnmnplbjhejejaa.Pure
