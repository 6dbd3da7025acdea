/- VarintBack: for every number and every two texts, what was put is got, whatever stands behind; what is got, or taken, was put so. No condition. -/
import Derived.Test.YtnmnplbjhejejaaVk
import Derived.Test.YtnmnplbjhejejaaPAx8
set_option linter.unusedVariables false
namespace Go.Proofs.Ytnmnplbjhejejaa.Pure
open Go.RowKit Go.Proofs.YtnmnplbjhejejaaW.PrintWords Go.Proofs.YtnmnplbjhejejaaW.PrintLast Go.Proofs.YtnmnplbjhejejaaW.PrintMore Go.Proofs.Ytnmnplbjhejejaa.PA Go.Proofs.Ytnmnplbjhejejaa.Base Go.Proofs.Ytnmnplbjhejejaa.Vi

theorem VarintBack : knapsacklaw01_VarintBack.Pure := by
  intro n t s hn ht hs
  obtain ⟨h0, h1⟩ := u64_of hn
  obtain ⟨n, rfl⟩ := Int.eq_ofNat_of_zero_le h0
  obtain ⟨s, rfl⟩ := exB s
  obtain ⟨t, rfl⟩ := exB t
  rw [mkB_size] at hs ht
  have l1 := enc_length10 n (by omega)
  have l2 := enc_length10 t.length (by omega)
  apply Ev.rounds
  unfold knapsacklaw01_VarintBack.f
  refine Ev.bind (put_ev n (by omega)) ?_
  refine Base.Ev.ite_pos (by rw [mkB_size, mkB_size]; omega) ?_
  rw [mkB_append]
  have e1 := get_ev (enc n ++ s) (by simp; omega)
  rw [dec_enc0 n s (by omega)] at e1
  refine Ev.bind e1 ?_
  refine Ev.bind (text_ev t ht) ?_
  refine Base.Ev.ite_pos (by rw [mkB_size, mkB_size]; simp; omega) ?_
  rw [mkB_append]
  have e2 := take_ev (enc t.length ++ t ++ s) (by simp; omega)
  rw [tak_text t s (by omega)] at e2
  refine Ev.bind e2 ?_
  dsimp only [got, took]
  refine Base.Ev.ite_pos rfl ?_
  refine Base.Ev.ite_pos rfl ?_
  refine Base.Ev.ite_pos rfl ?_
  refine Base.Ev.ite_pos rfl ?_
  refine Base.Ev.ite_pos rfl ?_
  rw [bne_self_eq_false]
  refine Ev.step (fun k => by rw [knapsacklaw01_VarintBack.j0]) ?_
  refine Base.Ev.ite_neg (by simp) ?_
  refine Ev.bind (get_ev s (by omega)) ?_
  have last : Ev (fun k => knapsacklaw01_VarintBack.j1 k (mkB s) false) true := by
    refine Ev.step (fun k => by rw [knapsacklaw01_VarintBack.j1]) ?_
    refine Base.Ev.ite_neg (by simp) ?_
    refine Ev.bind (take_ev s (by omega)) ?_
    refine Ev.bind knows_ev ?_
    refine Base.Ev.ite_pos rfl ?_
    cases hk : tak s with
    | none => exact Base.Ev.ite_neg (by simp [took]) (Ev.now _)
    | some x =>
      obtain ⟨a, b⟩ := x
      have hp := tak_put (by omega) hk
      have hl : s.length = (enc a.length).length + a.length + b.length := by rw [hp]; simp; try omega
      have l3 := enc_length10 a.length (by omega)
      dsimp only [took]
      refine Base.Ev.ite_pos rfl ?_
      refine Ev.bind (text_ev a (by omega)) ?_
      refine Base.Ev.ite_pos (by rw [mkB_size, mkB_size]; simp; omega) ?_
      refine Base.Ev.eq ?_ (Ev.now _)
      rw [mkB_append, mkB_toList, mkB_toList, ← hp]
      simp
  cases hd : dec 0 s with
  | none => exact Base.Ev.ite_neg (by simp [got]) last
  | some x =>
    obtain ⟨v, r⟩ := x
    obtain ⟨hp, _⟩ := dec_put s 0 v r hd
    have hv := dec_lt0 hd
    have hl : s.length = (enc v).length + r.length := by rw [hp]; simp; try omega
    have l3 := enc_length10 v hv
    dsimp only [got]
    refine Base.Ev.ite_pos rfl ?_
    refine Ev.bind (put_ev v hv) ?_
    refine Base.Ev.ite_pos (by rw [mkB_size, mkB_size]; omega) ?_
    rw [mkB_append, mkB_toList, mkB_toList, ← hp, bne_self_eq_false]
    exact last
end Go.Proofs.Ytnmnplbjhejejaa.Pure
