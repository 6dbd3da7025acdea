/- CrcTells: for every text of up to 400 bytes, the program's Sum, Seal and Open tell what the reference's long division tells (the bound is the statement's own guard). No condition of ours. -/
import Derived.Test.YtnmnplbjhejejaaCs
import Derived.Test.YtnmnplbjhejejaaPAx3
set_option linter.unusedVariables false
namespace Go.Proofs.Ytnmnplbjhejejaa.Pure
open Go.RowKit Go.Proofs.YtnmnplbjhejejaaW.PrintWords Go.Proofs.YtnmnplbjhejejaaW.PrintLast Go.Proofs.YtnmnplbjhejejaaW.PrintMore Go.Proofs.Ytnmnplbjhejejaa.PA Go.Proofs.Ytnmnplbjhejejaa.Base Go.Proofs.Ytnmnplbjhejejaa.Cr

theorem ropen_ev (l : List UInt8) (hl : l.length ≤ 400) : Ev (fun k => knapsackref03_Open.f k (mkB l)) (opened (open_ l)) := by
  unfold knapsackref03_Open.f open_
  by_cases h : l.length < 4
  · refine Base.Ev.ite_pos (by rw [mkB_size]; omega) ?_
    rw [if_pos h]; exact Ev.now _
  · refine Base.Ev.ite_neg (by rw [mkB_size]; omega) ?_
    rw [if_neg h]
    have e : (wrap64 (((mkB l).size : Int) - 4)) = ((l.length - 4 : Nat) : Int) := by rw [mkB_size, w64 (by omega) (by omega)]; omega
    rw [e]
    refine Base.Ev.ite_pos (by omega) ?_
    refine Base.Ev.ite_pos (by rw [mkB_size]; omega) ?_
    rw [Int.toNat_natCast, mkB_take]
    refine Ev.bind (rseal_ev (l.take (l.length - 4)) (by simp; omega)) ?_
    by_cases hs : seal_ (l.take (l.length - 4)) = l
    · refine Base.Ev.ite_pos (by rw [mkB_toList, mkB_toList]; exact hs) ?_
      rw [if_pos hs]; exact Ev.now _
    · refine Base.Ev.ite_neg (by rw [mkB_toList, mkB_toList]; exact hs) ?_
      rw [if_neg hs]; exact Ev.now _
theorem CrcTells : knapsacklaw03_CrcTells.Pure := by
  intro s _
  obtain ⟨s, rfl⟩ := exB s
  apply Ev.rounds
  unfold knapsacklaw03_CrcTells.f
  by_cases hl : s.length ≤ 400
  · refine Base.Ev.ite_neg (by rw [mkB_size]; omega) ?_
    refine Ev.bind (open_ev s (by omega)) ?_
    refine Ev.bind (ropen_ev s hl) ?_
    refine Ev.bind knows_ev ?_
    refine Base.Ev.ite_pos rfl ?_
    refine Ev.bind (sum_ev s (by omega)) ?_
    refine Ev.bind (rsum_ev s hl) ?_
    refine Base.Ev.ite_pos rfl ?_
    refine Ev.bind (seal_ev s (by omega)) ?_
    refine Ev.bind (rseal_ev s hl) ?_
    refine Base.Ev.ite_pos rfl ?_
    refine Base.Ev.ite_pos rfl ?_
    refine Base.Ev.eq ?_ (Ev.now _)
    simp
  · refine Base.Ev.ite_pos (by rw [mkB_size]; omega) ?_
    exact Ev.bind knows_ev (Ev.now _)
end Go.Proofs.Ytnmnplbjhejejaa.Pure
