/- BandPuts: for every channel, every text of up to 3000 bytes and every size, the program's lines are the reference's, or both tell the error (the bound is the statement's own guard). No condition of ours. -/
import Derived.Test.YtkhbapchkfmocaaBa
set_option linter.unusedVariables false
namespace Go.Proofs.Ytkhbapchkfmocaa.Pure
open Go.RowKit Go.Proofs.YtkhbapchkfmocaaW.PrintWords Go.Proofs.YtkhbapchkfmocaaW.PrintLast Go.Proofs.YtkhbapchkfmocaaW.PrintMore Go.Proofs.Ytkhbapchkfmocaa.PA Go.Proofs.Ytkhbapchkfmocaa.Base Go.Proofs.Ytkhbapchkfmocaa.Ba

theorem BandPuts : knapsacklaw08_BandPuts.Pure := by
  intro c s n _ _ _
  obtain ⟨s, rfl⟩ := exB s
  apply Ev.rounds
  unfold knapsacklaw08_BandPuts.f
  by_cases hs : s.length ≤ 3000
  · refine Base.Ev.ite_neg (by rw [mkB_size]; omega) ?_
    by_cases h : may c n
    · obtain ⟨ch, m, rfl, rfl⟩ := may_nat h
      have hl := lines_length ch m (by unfold may at h; omega) s
      refine Ev.bind (put_yes ch m s hs h) ?_
      refine Ev.bind (rput_yes ch m s hs h) ?_
      refine Ev.bind (as_ev (lines ch m s) (by omega)) ?_
      refine Ev.bind (same_ev _ (by simp; omega)) ?_
      refine Ev.bind knows_ev ?_
      refine Base.Ev.ite_pos rfl ?_
      refine Base.Ev.ite_pos rfl ?_
      refine Base.Ev.ite_pos rfl ?_
      exact Base.Ev.ite_pos rfl (Ev.now _)
    · refine Ev.bind (put_no c n _ h) ?_
      refine Ev.bind (rput_no c n _ h) ?_
      refine Ev.bind (as_ev [] (by decide)) ?_
      refine Ev.bind (same_ev [] (by decide)) ?_
      refine Ev.bind knows_ev ?_
      refine Base.Ev.ite_pos rfl ?_
      refine Base.Ev.ite_pos rfl ?_
      refine Base.Ev.ite_pos (by decide) ?_
      exact Base.Ev.ite_neg (by decide) (Ev.now _)
  · refine Base.Ev.ite_pos (by rw [mkB_size]; omega) ?_
    exact Ev.bind knows_ev (Ev.now _)
end Go.Proofs.Ytkhbapchkfmocaa.Pure
