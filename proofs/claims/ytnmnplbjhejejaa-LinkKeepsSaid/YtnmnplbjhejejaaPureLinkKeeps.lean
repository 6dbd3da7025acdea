/- LinkKeeps: whatever packets get lost, come again, in another order, or with a byte turned, what each end is told is what the other one sent, in order, from the first on; a packet with a byte turned is refused. No condition. -/
import Derived.Test.YtnmnplbjhejejaaLp4
set_option linter.unusedVariables false
set_option linter.unusedSimpArgs false
namespace Go.Proofs.Ytnmnplbjhejejaa.Pure
open Go.RowKit Go.Proofs.YtnmnplbjhejejaaW.PrintWords Go.Proofs.YtnmnplbjhejejaaW.PrintLast Go.Proofs.YtnmnplbjhejejaaW.PrintMore Go.Proofs.Ytnmnplbjhejejaa.PA Go.Proofs.Ytnmnplbjhejejaa.Base Go.Proofs.Ytnmnplbjhejejaa.Lk Go.Proofs.Ytnmnplbjhejejaa.Lp

theorem keeps_l0 (l : List S66) (hl : l.length ≤ 80) (hs : ∀ j, (h : j < l.length) → l[j].f2.size ≤ 700) (hg : ∀ z ∈ l, GoodStep z) (d : Nat) : ∀ (i : Nat) (N : NS), i + d = l.length → Inv N i → Ev (fun k => knapsacklaw24_LinkKeeps.l0 k l N (i : Int)) true := by
  induction d with
  | zero =>
    intro i N h hN
    refine Ev.step (fun k => by rw [knapsacklaw24_LinkKeeps.l0]) ?_
    refine Base.Ev.ite_neg (by omega) ?_
    exact knows_ev
  | succ d ih =>
    intro i N h hN
    have hi : i < l.length := by omega
    obtain ⟨N', e, hN', _⟩ := step_ev hN (by omega) (okS_of (hg _ (List.getElem_mem hi))) (hs i hi)
    refine Ev.step (fun k => by rw [knapsacklaw24_LinkKeeps.l0]) ?_
    refine Base.Ev.ite_pos (by omega) ?_
    refine Base.Ev.ite_pos (by omega) ?_
    rw [rd66 l i hi]
    refine Ev.bind e ?_
    have hlen : ∀ j, (N'.l j).length ≤ 1000000 := fun j => by have := hN'.len j; omega
    refine Base.Ev.ite_pos ⟨hN'.fine, hlen⟩ ?_
    obtain ⟨na, nb, ta, tb, pa, pb, P⟩ := hN'.pair
    refine Ev.bind (prefix_ev _ _ P.fb.told_prefix (hlen 3)) ?_
    refine Ev.bind (prefix_ev _ _ P.fa.told_prefix (hlen 2)) ?_
    refine Base.Ev.ite_pos ⟨rfl, rfl⟩ ?_
    rw [inc i (by omega)]
    exact ih (i + 1) N' (by omega) hN'
theorem LinkKeeps (l : List S66) (hg : ∀ z ∈ l, GoodStep z) (hl : l.length ≤ 9223372036854775807) : ∃ k, knapsacklaw24_LinkKeeps.f k l = some true := by
  apply Ev.rounds
  unfold knapsacklaw24_LinkKeeps.f
  obtain ⟨b, hb, hb2⟩ := few_ev l hl
  refine Ev.bind hb ?_
  cases b with
  | false => exact Base.Ev.ite_neg (by simp) knows_ev
  | true =>
    obtain ⟨h1, h2⟩ := hb2 rfl
    exact Base.Ev.ite_pos rfl (keeps_l0 l h1 h2 hg l.length 0 net0 (by omega) inv0)
end Go.Proofs.Ytnmnplbjhejejaa.Pure
