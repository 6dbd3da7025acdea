/- BandGets: for every list of up to 40 lines, with loads of up to 1100 bytes, the program's Get tells what the reference's tells (the bounds are the statement's own guards). No condition of ours. -/
import Derived.Test.YtkhbapchkfmocaaBa
set_option linter.unusedVariables false
namespace Go.Proofs.Ytkhbapchkfmocaa.Pure
open Go.RowKit Go.Proofs.YtkhbapchkfmocaaW.PrintWords Go.Proofs.YtkhbapchkfmocaaW.PrintLast Go.Proofs.YtkhbapchkfmocaaW.PrintMore Go.Proofs.Ytkhbapchkfmocaa.PA Go.Proofs.Ytkhbapchkfmocaa.Base Go.Proofs.Ytkhbapchkfmocaa.Ba

theorem gets_l0 (l : List S34) (hl : l.length ≤ 40) (d : Nat) : ∀ i : Nat, i + d = l.length → Ev (fun k => knapsacklaw08_BandGets.l0 k l (i : Int)) true := by
  induction d with
  | zero =>
    intro i hi
    refine Ev.step (fun k => by rw [knapsacklaw08_BandGets.l0]) ?_
    refine Base.Ev.ite_neg (by omega) ?_
    refine Ev.bind (get_ev l (by omega)) ?_
    refine Ev.bind (as_ev l (by omega)) ?_
    refine Ev.bind (rget_ev l (by omega)) ?_
    refine Ev.bind knows_ev ?_
    refine Base.Ev.ite_pos rfl ?_
    refine Base.Ev.ite_pos rfl ?_
    refine Base.Ev.ite_pos rfl ?_
    refine Base.Ev.eq ?_ (Ev.now _)
    simp
  | succ d ih =>
    intro i hi
    refine Ev.step (fun k => by rw [knapsacklaw08_BandGets.l0]) ?_
    refine Base.Ev.ite_pos (by omega) ?_
    refine Base.Ev.ite_pos (by omega) ?_
    by_cases h : ((rd_T34 l (i : Int)).f1.size : Int) > 1100
    · refine Base.Ev.ite_pos h ?_
      exact Ev.bind knows_ev (Ev.now _)
    · refine Base.Ev.ite_neg h ?_
      rw [w64 (by omega) (by omega), show (i : Int) + 1 = ((i + 1 : Nat) : Int) by omega]
      exact ih (i + 1) (by omega)
theorem BandGets (l : List S34) {G : S34 → Prop} (_ : ∀ x ∈ l, G x) (_ : l.length ≤ 9223372036854775807) : ∃ k, knapsacklaw08_BandGets.f k l = some true := by
  apply Ev.rounds
  unfold knapsacklaw08_BandGets.f
  by_cases h : l.length ≤ 40
  · exact Base.Ev.ite_neg (by omega) (gets_l0 l h l.length 0 (by omega))
  · refine Base.Ev.ite_pos (by omega) ?_
    exact Ev.bind knows_ev (Ev.now _)
end Go.Proofs.Ytkhbapchkfmocaa.Pure
