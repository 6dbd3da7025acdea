/- PktPuts: for every list of up to 30 lines with loads of up to 1100 bytes (the statement's own guard) the program's bytes are the reference's, or both tell the error. No condition of ours. -/
import Derived.Test.YtkhbapchkfmocaaPk
set_option linter.unusedVariables false
namespace Go.Proofs.Ytkhbapchkfmocaa.Pure
open Go.RowKit Go.Proofs.YtkhbapchkfmocaaW.PrintWords Go.Proofs.YtkhbapchkfmocaaW.PrintLast Go.Proofs.YtkhbapchkfmocaaW.PrintMore Go.Proofs.Ytkhbapchkfmocaa.PA Go.Proofs.Ytkhbapchkfmocaa.Base Go.Proofs.Ytkhbapchkfmocaa.Ba Go.Proofs.Ytkhbapchkfmocaa.Pk

theorem PktPuts (l : List S34) {G : Prop} (_ : G) (hl : l.length ≤ 9223372036854775807) : ∃ k, knapsacklaw07_PktPuts.f k l = some true := by
  apply Ev.rounds
  unfold knapsacklaw07_PktPuts.f
  refine Ev.bind (few_ev l hl) ?_
  cases hf : (fewB 30 l && decide (l.length ≤ 30)) with
  | false =>
    refine Base.Ev.ite_neg (by simp) ?_
    exact Ev.bind Pk.knows_ev (Ev.now _)
  | true =>
    have h30 : l.length ≤ 30 := by simp at hf; exact hf.2
    refine Base.Ev.ite_pos rfl ?_
    refine Ev.bind (pput_ev l (by omega)) ?_
    refine Ev.bind (as_ev l (by omega)) ?_
    refine Ev.bind (rpput_ev l (by omega)) ?_
    refine Ev.bind Pk.knows_ev ?_
    refine Base.Ev.ite_pos rfl ?_
    cases puts l with
    | none =>
      refine Base.Ev.ite_pos rfl ?_
      refine Base.Ev.ite_pos rfl ?_
      exact Base.Ev.ite_neg (by simp [rputsP]) (Ev.now _)
    | some s =>
      refine Base.Ev.ite_pos rfl ?_
      refine Base.Ev.ite_pos rfl ?_
      exact Base.Ev.ite_pos rfl (Ev.now _)
end Go.Proofs.Ytkhbapchkfmocaa.Pure
