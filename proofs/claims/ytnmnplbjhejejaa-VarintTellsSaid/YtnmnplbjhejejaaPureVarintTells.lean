/- VarintTells: for every number and every two texts, varint's Put, Text, Get and Take tell what the reference tells. No condition. -/
import Derived.Test.YtnmnplbjhejejaaVk
set_option linter.unusedVariables false
namespace Go.Proofs.Ytnmnplbjhejejaa.Pure
open Go.RowKit Go.Proofs.YtnmnplbjhejejaaW.PrintWords Go.Proofs.YtnmnplbjhejejaaW.PrintLast Go.Proofs.YtnmnplbjhejejaaW.PrintMore Go.Proofs.Ytnmnplbjhejejaa.PA Go.Proofs.Ytnmnplbjhejejaa.Base Go.Proofs.Ytnmnplbjhejejaa.Vi

theorem VarintTells : knapsacklaw01_VarintTells.Pure := by
  intro n s t hn hs ht
  obtain ⟨h0, h1⟩ := u64_of hn
  obtain ⟨n, rfl⟩ := Int.eq_ofNat_of_zero_le h0
  obtain ⟨s, rfl⟩ := exB s
  obtain ⟨t, rfl⟩ := exB t
  rw [mkB_size] at hs ht
  apply Ev.rounds
  unfold knapsacklaw01_VarintTells.f
  refine Ev.bind (put_ev n (by omega)) ?_
  refine Ev.bind (rput_ev n (by omega)) ?_
  refine Base.Ev.ite_pos rfl ?_
  refine Ev.bind (text_ev t ht) ?_
  refine Ev.bind (rtext_ev t ht) ?_
  rw [bne_self_eq_false]
  refine Ev.step (fun k => by rw [knapsacklaw01_VarintTells.j0]) ?_
  refine Base.Ev.ite_neg (by simp) ?_
  have e1 := get_ev s (by omega)
  have e2 := rget_ev s (by omega)
  refine Ev.bind e1 ?_
  refine Ev.bind e2 ?_
  refine Ev.bind (take_ev s (by omega)) ?_
  refine Ev.bind (rtake_ev s (by omega)) ?_
  have last : Ev (fun k => knapsacklaw01_VarintTells.j1 k (mkB s) (took (tak s)).1 (took (tak s)).2.1 (took (tak s)).2.2 (rtook s.length (tak s)).1 (rtook s.length (tak s)).2) true := by
    refine Ev.step (fun k => by rw [knapsacklaw01_VarintTells.j1]) ?_
    cases hk : tak s with
    | none =>
      dsimp only [took, rtook]
      refine Base.Ev.ite_pos rfl ?_
      refine Ev.bind knows_ev ?_
      refine Base.Ev.ite_pos rfl ?_
      refine Base.Ev.ite_pos rfl ?_
      refine Base.Ev.ite_pos (mkB_toList _) ?_
      refine Base.Ev.eq ?_ (Ev.now _)
      rw [mkB_toList]; rfl
    | some x =>
      obtain ⟨a, b⟩ := x
      have hp := tak_put (by omega) hk
      have hq := enc_length_pos a.length
      have hl : s.length = (enc a.length).length + a.length + b.length := by rw [hp]; simp; try omega
      dsimp only [took, rtook]
      refine Base.Ev.ite_neg (by omega) ?_
      refine Ev.bind knows_ev ?_
      refine Base.Ev.ite_pos rfl ?_
      refine Base.Ev.ite_pos rfl ?_
      refine Base.Ev.ite_pos rfl ?_
      refine Base.Ev.ite_pos (by omega) ?_
      refine Base.Ev.ite_pos (by rw [mkB_size]; omega) ?_
      refine Base.Ev.eq ?_ (Ev.now _)
      rw [mkB_drop, mkB_toList, mkB_toList, beq_iff_eq, show ((s.length - b.length : Nat) : Int).toNat = (enc a.length ++ a).length by simp; omega]
      conv => rhs; rw [hp]
      simp
  cases hd : dec 0 s with
  | none =>
    dsimp only [got, rgot]
    refine Base.Ev.ite_pos rfl ?_
    refine Base.Ev.ite_pos rfl ?_
    refine Base.Ev.ite_pos rfl ?_
    refine Base.Ev.ite_pos (mkB_toList _) ?_
    exact last
  | some x =>
    obtain ⟨v, r⟩ := x
    obtain ⟨hr, hrd⟩ := dec_length hd
    dsimp only [got, rgot]
    refine Base.Ev.ite_neg (by omega) ?_
    refine Base.Ev.ite_pos rfl ?_
    refine Base.Ev.ite_pos rfl ?_
    refine Base.Ev.ite_pos (by omega) ?_
    refine Base.Ev.ite_pos (by rw [mkB_size]; omega) ?_
    refine Base.Ev.ite_pos (by rw [mkB_drop, mkB_toList, mkB_toList, Int.toNat_natCast, hrd]) ?_
    exact last
end Go.Proofs.Ytnmnplbjhejejaa.Pure
