/- PktGets: for every text of up to 2500 bytes (the statement's own guard) the program's Get and All tell what the reference's tell. No condition of ours. -/
import Derived.Test.YtkhbapchkfmocaaPk
set_option linter.unusedVariables false
namespace Go.Proofs.Ytkhbapchkfmocaa.Pure
open Go.RowKit Go.Proofs.YtkhbapchkfmocaaW.PrintWords Go.Proofs.YtkhbapchkfmocaaW.PrintLast Go.Proofs.YtkhbapchkfmocaaW.PrintMore Go.Proofs.Ytkhbapchkfmocaa.PA Go.Proofs.Ytkhbapchkfmocaa.Base Go.Proofs.Ytkhbapchkfmocaa.Ba Go.Proofs.Ytkhbapchkfmocaa.Pk

theorem allF_length (d : Nat) : ∀ (l : List UInt8) (m : List S34), allF d l = some m → m.length ≤ d := by
  induction d with
  | zero => intro l m h; rw [allF] at h; split at h <;> simp_all
  | succ d ih =>
    intro l m h
    rw [allF] at h
    split at h
    · simp at h; subst h; simp
    · cases hx : getP l with
      | none => rw [hx] at h; simp at h
      | some x =>
        rw [hx] at h
        simp only at h
        cases hr : allF d x.2.2 with
        | none => rw [hr] at h; simp at h
        | some q =>
          rw [hr] at h
          simp only [Option.map_some, Option.some.injEq] at h
          subst h
          have := ih _ _ hr
          simp; omega
theorem PktGets : knapsacklaw07_PktGets.Pure := by
  intro s _
  obtain ⟨s, rfl⟩ := exB s
  apply Ev.rounds
  unfold knapsacklaw07_PktGets.f
  by_cases hs : s.length > 2500
  · refine Base.Ev.ite_pos (by rw [mkB_size]; omega) ?_
    exact Ev.bind Pk.knows_ev (Ev.now _)
  refine Base.Ev.ite_neg (by rw [mkB_size]; omega) ?_
  have last : Ev (fun k => knapsacklaw07_PktGets.j0 k (mkB s) false) true := by
    refine Ev.step (fun k => by rw [knapsacklaw07_PktGets.j0]) ?_
    refine Base.Ev.ite_neg (by simp) ?_
    refine Ev.bind (all_ev s (by omega)) ?_
    refine Ev.bind (rall_ev s (by omega)) ?_
    cases ha : allF s.length s with
    | none =>
      refine Ev.bind (as_ev [] (by decide)) ?_
      refine Ev.bind (same_ev [] (by decide)) ?_
      refine Ev.bind Pk.knows_ev ?_
      refine Base.Ev.ite_pos rfl ?_
      refine Base.Ev.ite_pos rfl ?_
      refine Base.Ev.ite_pos rfl ?_
      exact Base.Ev.ite_neg (by simp [rallsP]) (Ev.now _)
    | some m =>
      have hm := allF_length _ _ _ ha
      refine Ev.bind (as_ev m (by omega)) ?_
      refine Ev.bind (same_ev _ (by simp; omega)) ?_
      refine Ev.bind Pk.knows_ev ?_
      refine Base.Ev.ite_pos rfl ?_
      refine Base.Ev.ite_pos rfl ?_
      refine Base.Ev.ite_pos rfl ?_
      exact Base.Ev.ite_pos rfl (Ev.now _)
  have e1 := pget_ev s (by omega)
  have e2 := rpget_ev s (by omega)
  cases hx : getP s with
  | none =>
    rw [hx] at e1 e2
    refine Ev.bind e1 ?_
    refine Ev.bind e2 ?_
    refine Base.Ev.ite_pos rfl ?_
    refine Base.Ev.ite_pos rfl ?_
    refine Base.Ev.ite_neg (by simp [gotP, rgotP]) ?_
    refine Base.Ev.ite_neg (by simp [rgotP]) ?_
    refine Base.Ev.ite_pos rfl ?_
    refine Base.Ev.ite_pos (mkB_toList _) ?_
    exact last
  | some x =>
    obtain ⟨hlen, hdr⟩ := getP_length hx
    rw [hx] at e1 e2
    have hn : 4 ≤ s.length - x.2.2.length := by omega
    refine Ev.bind e1 ?_
    refine Ev.bind e2 ?_
    refine Base.Ev.ite_pos rfl ?_
    refine Base.Ev.ite_pos rfl ?_
    refine Base.Ev.ite_neg (by simp only [gotP, rgotP]; simp; omega) ?_
    refine Base.Ev.ite_pos (by simp only [rgotP]; omega) ?_
    refine Base.Ev.ite_pos (by simp only [rgotP]; omega) ?_
    refine Base.Ev.ite_pos (by simp only [rgotP, mkB_size]; omega) ?_
    refine Base.Ev.ite_pos (by simp only [gotP, rgotP, Int.toNat_natCast, mkB_drop, mkB_toList, hdr]) ?_
    refine Base.Ev.ite_neg (by simp only [rgotP]; omega) ?_
    exact last
end Go.Proofs.Ytkhbapchkfmocaa.Pure
