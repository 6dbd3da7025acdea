/- DiskPlays: whatever acts, one behind the other, and whatever is cut off: each answer and all files are the document's. No condition. -/
import Derived.Test.YtaibcfghokhghaaDp2
set_option linter.unusedVariables false
set_option linter.unusedSimpArgs false
namespace Go.Proofs.Ytaibcfghokhghaa.Pure
open Go.RowKit Go.Proofs.YtaibcfghokhghaaW.PrintWords Go.Proofs.YtaibcfghokhghaaW.PrintLast Go.Proofs.YtaibcfghokhghaaW.PrintMore Go.Proofs.Ytaibcfghokhghaa.PA Go.Proofs.Ytaibcfghokhghaa.Base Go.Proofs.Ytaibcfghokhghaa.Lk Go.Proofs.Ytaibcfghokhghaa.Dk Go.Proofs.Ytaibcfghokhghaa.Dp

def GoodAct (x : S33) : Prop := ((Lit.int .u8 x.f0).wf = true) ∧ (x.f1.size ≤ 9223372036854775807) ∧ (x.f2.size ≤ 9223372036854775807) ∧ ((Lit.int .i64 x.f3).wf = true) ∧ ((Lit.int .i64 x.f4).wf = true)
theorem plays_l0 (l : List S33) (hl : l.length ≤ 60) (hs : ∀ j, (h : j < l.length) → l[j].f2.size ≤ 100) (hg : ∀ z ∈ l, GoodAct z) (d : Nat) : ∀ (i : Nat) (D : Dsk), i + d = l.length → Inv D i → Ev (fun k => knapsacklaw21_DiskPlays.l0 k l D D (i : Int)) true := by
  induction d with
  | zero =>
    intro i D h hN
    refine Ev.step (fun k => by rw [knapsacklaw21_DiskPlays.l0]) ?_
    refine Base.Ev.ite_neg (by omega) ?_
    exact Ev.now _
  | succ d ih =>
    intro i D h hN
    have hi : i < l.length := by omega
    obtain ⟨g0, g1, g2, g3, g4⟩ := hg _ (List.getElem_mem hi)
    obtain ⟨D', e, hN'⟩ := act_ev hN (by omega) l[i] (u8_of g0) (hs i hi) (i64_of g3)
    refine Ev.step (fun k => by rw [knapsacklaw21_DiskPlays.l0]) ?_
    refine Base.Ev.ite_pos (by omega) ?_
    refine Base.Ev.ite_pos (by omega) ?_
    rw [rd33 l i hi]
    refine Ev.bind e ?_
    refine Ev.itp (same_ok hN' (by omega)) ?_
    rw [inc i (by omega)]
    exact ih (i + 1) D' (by omega) hN'
theorem DiskPlays (l : List S33) (hg : ∀ z ∈ l, GoodAct z) (hl : l.length ≤ 9223372036854775807) : ∃ k, knapsacklaw21_DiskPlays.f k l = some true := by
  apply Ev.rounds
  unfold knapsacklaw21_DiskPlays.f
  obtain ⟨b, hb, hb2⟩ := few_ev l hl
  refine Ev.bind hb ?_
  cases b with
  | false => exact Base.Ev.ite_neg (by simp) (Ev.now _)
  | true =>
    obtain ⟨h1, h2⟩ := hb2 rfl
    exact Base.Ev.ite_pos rfl (plays_l0 l h1 h2 hg l.length 0 D0 (by omega) inv0)
end Go.Proofs.Ytaibcfghokhghaa.Pure
