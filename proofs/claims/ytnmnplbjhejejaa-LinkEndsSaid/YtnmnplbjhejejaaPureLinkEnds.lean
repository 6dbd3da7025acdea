/- LinkEnds: behind any steps, once packets come through both ways, round by round, all is told, and both ends are idle, within one round more than there are parts. No condition. -/
import Derived.Test.YtnmnplbjhejejaaLp4
import Derived.Test.YtnmnplbjhejejaaLkg
set_option linter.unusedVariables false
set_option linter.unusedSimpArgs false
namespace Go.Proofs.Ytnmnplbjhejejaa.Pure
open Go.RowKit Go.Proofs.YtnmnplbjhejejaaW.PrintWords Go.Proofs.YtnmnplbjhejejaaW.PrintLast Go.Proofs.YtnmnplbjhejejaaW.PrintMore Go.Proofs.Ytnmnplbjhejejaa.PA Go.Proofs.Ytnmnplbjhejejaa.Base Go.Proofs.Ytnmnplbjhejejaa.Lk Go.Proofs.Ytnmnplbjhejejaa.Lp

/-- A packet of a's comes to b at once. -/
theorem half {na nb ta tb : Nat} {sa sb da db : List ByteArray} {ea eb : En} {wa wb : List ByteArray} {pa pb : List Pk} (h : Two na nb ta tb sa sb da db ea eb wa wb pa pb) (hA : (allOf sa).length ≤ 100000) (hB : (allOf sb).length ≤ 100000) :
    ∃ s E' r nb' tb', Ev (fun k => tickF k ea) s ∧ Ev (fun k => recvF k eb s) (E', r, true) ∧ r.length ≤ 1 ∧ Two na nb' ta tb' sa sb da (db ++ r) ea E' wa wb pa pb ∧
      tb ≤ tb' ∧ nb ≤ nb' ∧ (na < (allOf sa).length → na + 1 ≤ tb') ∧ (ta = nb + 1 → nb < (allOf sb).length → nb' = nb + 1) := by
  obtain ⟨h1, h2, h3⟩ := h.symm.recv hB hA (p := tickPk ea.parts na ta) h.fa.tick_ok
  refine ⟨_, _, _, _, _, h.tick_ev hA hB, h1, h2, h3.symm, ?_, ?_, ?_, ?_⟩
  · split <;> omega
  · split <;> omega
  · intro hn
    have hp := h.fa.parts
    have hne : ea.parts ≠ [] := by
      rw [hp]
      intro e
      rw [List.drop_eq_nil_iff] at e
      have e2 : (allOf sa).length = (sa.flatMap partsOf).length := rfl
      omega
    have hnum : (tickPk ea.parts na ta).number = na + 1 := by
      unfold tickPk
      cases hq : ea.parts with
      | nil => exact absurd hq hne
      | cons p l => rfl
    rw [hnum]
    have l1 := h.fa.le1
    have l2 := h.fa.le2
    split <;> omega
  · intro ht hn
    have htk : (tickPk ea.parts na ta).took = ta := by
      unfold tickPk
      cases ea.parts <;> rfl
    rw [htk, if_pos ⟨hn, ht⟩]
theorem halfF_ev (N : NS) (K O : Fin 2) (t : Fin 6) {s : ByteArray} {E' : En} {r : List ByteArray} (h1 : Ev (fun k => tickF k (N.e K)) s) (h2 : Ev (fun k => recvF k (N.e O) s) (E', r, true)) (h3 : r.length ≤ 1) (hf : N.fine = true) (hl : (N.l t).length ≤ 1000000) :
    Ev (fun k => halfF k N K O t) { N with e := upd N.e O E', l := upd N.l t (N.l t ++ r), fine := true } := by
  unfold halfF
  refine Ev.bind h1 ?_
  refine Ev.bind h2 ?_
  refine Base.Ev.ite_pos ⟨rfl, h3, hf, hl⟩ ?_
  exact Ev.now _
/-- How far the net is behind r rounds. -/
structure Far (N : NS) (A B r : Nat) (sa sb : List ByteArray) : Prop where
  two : ∃ na nb ta tb pa pb, Two na nb ta tb sa sb (N.l 4) (N.l 5) (N.e 0) (N.e 1) (N.l 0) (N.l 1) pa pb ∧ min r A ≤ na ∧ min (r - 1) B ≤ nb ∧ min r B ≤ ta
  fine : N.fine = true
  s2 : N.l 2 = sa
  s3 : N.l 3 = sb
  w : (N.l 0).length ≤ 1000000 ∧ (N.l 1).length ≤ 1000000
theorem told_len {sent told : List ByteArray} {m : Nat} (h : told <+: sent) (hm : sent.length ≤ m) : told.length ≤ m := Nat.le_trans h.length_le hm
theorem round_ev {N : NS} {A B r : Nat} {sa sb : List ByteArray} (h : Far N A B r sa sb) (eA : (allOf sa).length = A) (eB : (allOf sb).length = B) (hA : A ≤ 100000) (hB : B ≤ 100000) (la : sa.length ≤ 1000) (lb : sb.length ≤ 1000) :
    ∃ N1 N2, Ev (fun k => halfF k N 0 1 5) N1 ∧ Ev (fun k => halfF k N1 1 0 4) N2 ∧ Far N2 A B (r + 1) sa sb := by
  obtain ⟨na, nb, ta, tb, pa, pb, P, q1, q2, q3⟩ := h.two
  have d5 := told_len P.fa.told_prefix la
  have d4 := told_len P.fb.told_prefix lb
  obtain ⟨s, E', r1, nb', tb', e1, e2, e3, P1, f1, f2, f3, f4⟩ := half P (by omega) (by omega)
  have d5' := told_len P1.fa.told_prefix la
  have hh1 := halfF_ev N 0 1 5 e1 e2 e3 h.fine (by omega)
  obtain ⟨s', E'', r2, na', ta', g1, g2, g3, P2, k1, k2, k3, k4⟩ := half P1.symm (by omega) (by omega)
  have hh2 := halfF_ev { N with e := upd N.e 1 E', l := upd N.l 5 (N.l 5 ++ r1), fine := true } 1 0 4 g1 g2 g3 rfl (by show (N.l 4).length ≤ _; omega)
  refine ⟨_, _, hh1, hh2, ⟨⟨na', nb', ta', tb', pa, pb, P2.symm, ?_, ?_, ?_⟩, rfl, h.s2, h.s3, h.w⟩⟩
  · -- na'
    have l1 := P.fa.le1
    have l2 := P.fa.le2
    have l3 := P1.fa.le2
    have l4 := P1.fa.le1
    rw [eA] at f3 k4
    by_cases c : na < A
    · have := f3 c
      have := k4 (by omega) c
      omega
    · omega
  · -- nb'
    have l1 := P.fb.le1
    have l2 := P.fb.le2
    rw [eB] at f4
    by_cases c : min r B ≤ nb
    · have : r + 1 - 1 = r := by omega
      rw [this]; omega
    · have := f4 (by omega) (by omega)
      have : r + 1 - 1 = r := by omega
      rw [this]; omega
  · -- ta'
    rw [eB] at k3
    have l1 := P2.symm.fb.le1
    by_cases c : nb' < B
    · have h1 := k3 c
      have : min r B ≤ nb' := by
        have l1 := P.fb.le1
        have l2 := P.fb.le2
        rw [eB] at f4
        by_cases c : min r B ≤ nb
        · omega
        · have := f4 (by omega) (by omega)
          omega
      omega
    · omega
theorem rounds_ev (A B : Nat) (sa sb : List ByteArray) (eA : (allOf sa).length = A) (eB : (allOf sb).length = B) (hA : A ≤ 60000) (hB : B ≤ 60000) (la : sa.length ≤ 1000) (lb : sb.length ≤ 1000) (d : Nat) : ∀ (i : Nat) (N : NS), i + d = A + B + 1 → Far N A B i sa sb →
    Ev (fun k => knapsacklaw24_LinkEnds.r0 k N ((A + B : Nat) : Int) (i : Int)) true := by
  induction d with
  | zero =>
    intro i N h hN
    refine Ev.step (fun k => by rw [knapsacklaw24_LinkEnds.r0]) ?_
    refine Base.Ev.ite_neg (by omega) ?_
    obtain ⟨na, nb, ta, tb, pa, pb, P, q1, q2, q3⟩ := hN.two
    have d5 := told_len P.fa.told_prefix la
    have d4 := told_len P.fb.told_prefix lb
    have hlen : ∀ j, (N.l j).length ≤ 1000000 := by
      intro j
      match j with
      | 0 => exact hN.w.1
      | 1 => exact hN.w.2
      | 2 => rw [hN.s2]; omega
      | 3 => rw [hN.s3]; omega
      | 4 => omega
      | 5 => omega
    refine Base.Ev.ite_pos ⟨hN.fine, hlen⟩ ?_
    have i0 : (N.e 0).parts = [] := by
      rw [P.fa.parts]
      refine List.drop_eq_nil_iff.mpr ?_
      have e : (sa.flatMap partsOf).length = A := eA
      omega
    have i1 : (N.e 1).parts = [] := by
      rw [P.fb.parts]
      refine List.drop_eq_nil_iff.mpr ?_
      have e : (sb.flatMap partsOf).length = B := eB
      omega
    have t5 : N.l 5 = N.l 2 := by rw [P.fa.all_told i0, hN.s2]
    have t4 : N.l 4 = N.l 3 := by rw [P.fb.all_told i1, hN.s3]
    rw [t4, t5]
    refine Ev.bind (same_ev _ (hlen 3)) ?_
    refine Ev.bind (same_ev _ (hlen 2)) ?_
    refine Ev.bind knows_ev ?_
    refine Base.Ev.ite_pos ⟨rfl, rfl, rfl, by rw [i0]; rfl, by rw [i1]; rfl⟩ ?_
    exact Ev.now _
  | succ d ih =>
    intro i N h hN
    obtain ⟨N1, N2, e1, e2, hF⟩ := round_ev hN eA eB (by omega) (by omega) la lb
    refine Ev.step (fun k => by rw [knapsacklaw24_LinkEnds.r0]) ?_
    refine Base.Ev.ite_pos (by omega) ?_
    refine Ev.bind e1 ?_
    refine Ev.bind e2 ?_
    rw [inc i (by omega)]
    exact ih (i + 1) N2 (by omega) hF
/-- As many parts as the document's. -/
theorem rparts_ev : ∀ (j : Nat) (m : ByteArray), m.size ≤ j → m.size ≤ 1000000 → ∃ ps, Ev (fun k => knapsackref24_Parts.f k m) ps ∧ ps.length = (partsGo j m).length
  | 0, m, h, hl => by
    refine ⟨_, Ev.step (fun k => by rw [knapsackref24_Parts.f]) (Base.Ev.ite_pos (by omega) (Ev.now _)), rfl⟩
  | j + 1, m, h, hl => by
    rw [partsGo]
    by_cases c : (m.size : Int) > 200
    · have hs := size_cut m (by omega)
      obtain ⟨ps, e, he⟩ := rparts_ev j (m.extract 200 m.size) (by omega) (by omega)
      have hln := partsGo_length j (m.extract 200 m.size)
      refine ⟨[⟨m.extract 0 200, false⟩] ++ ps, ?_, ?_⟩
      · refine Ev.step (fun k => by rw [knapsackref24_Parts.f]) ?_
        refine Base.Ev.ite_neg (by omega) ?_
        refine Base.Ev.ite_pos (by omega) ?_
        refine Base.Ev.ite_pos (by omega) ?_
        refine Base.Ev.pure_bind ?_
        refine Ev.bind e ?_
        have hj : (partsGo j (m.extract 200 m.size)).length ≤ 1000001 := by
          rw [partsGo_fuel j (m.extract 200 m.size).size _ (by omega) (Nat.le_refl _)]
          have := partsGo_length (m.extract 200 m.size).size (m.extract 200 m.size)
          omega
        refine Base.Ev.ite_pos (by rw [he]; simp only [List.length_singleton]; omega) ?_
        exact Ev.now _
      · rw [if_pos c, List.length_cons, ← he]
        rfl
    · rw [if_neg c]
      exact ⟨_, Ev.step (fun k => by rw [knapsackref24_Parts.f]) (Base.Ev.ite_pos (by omega) (Ev.now _)), rfl⟩
theorem far0 {N : NS} {i : Nat} (h : Inv N i) (hi : i ≤ 80) : Far N (allOf (N.l 2)).length (allOf (N.l 3)).length 0 (N.l 2) (N.l 3) := by
  obtain ⟨na, nb, ta, tb, pa, pb, P⟩ := h.pair
  exact ⟨⟨na, nb, ta, tb, pa, pb, P, by omega, by omega, by omega⟩, h.fine, rfl, rfl, by have := h.len 0; have := h.len 1; omega⟩
theorem ends_l0 (l : List S66) (hl : l.length ≤ 80) (hs : ∀ j, (h : j < l.length) → l[j].f2.size ≤ 700) (hg : ∀ z ∈ l, GoodStep z) (d : Nat) : ∀ (i : Nat) (N : NS), i + d = l.length → Inv N i → Ev (fun k => knapsacklaw24_LinkEnds.l0 k l N ((total N : Nat) : Int) (i : Int)) true := by
  induction d with
  | zero =>
    intro i N h hN
    refine Ev.step (fun k => by rw [knapsacklaw24_LinkEnds.l0]) ?_
    refine Base.Ev.ite_neg (by omega) ?_
    have h2 := allOf_length _ hN.s2
    have h3 := allOf_length _ hN.s3
    have l2 := hN.len 2
    have l3 := hN.len 3
    exact rounds_ev _ _ (N.l 2) (N.l 3) rfl rfl (by omega) (by omega) (by omega) (by omega) _ 0 N (by rw [Nat.zero_add]) (far0 hN (by omega))
  | succ d ih =>
    intro i N h hN
    have hi : i < l.length := by omega
    obtain ⟨N', e, hN', ht⟩ := step_ev hN (by omega) (okS_of (hg _ (List.getElem_mem hi))) (hs i hi)
    have hsz := hs i hi
    refine Ev.step (fun k => by rw [knapsacklaw24_LinkEnds.l0]) ?_
    refine Base.Ev.ite_pos (by omega) ?_
    refine Base.Ev.ite_pos (by omega) ?_
    rw [rd66 l i hi]
    refine Ev.bind e ?_
    have h2 := allOf_length _ hN.s2
    have h3 := allOf_length _ hN.s3
    have l2 := hN.len 2
    have l3 := hN.len 3
    have htot : total N ≤ 200000 := by unfold total; omega
    by_cases c : Int.tmod l[i].f0 6 = 0
    · refine Base.Ev.ite_pos c ?_
      obtain ⟨ps, ep, hp⟩ := rparts_ev l[i].f2.size l[i].f2 (Nat.le_refl _) (by omega)
      refine Ev.bind ep ?_
      rw [if_pos c] at ht
      have hpl := partsOf_length l[i].f2
      have e2 : wrap64 ((total N : Int) + (ps.length : Int)) = ((total N' : Nat) : Int) := by
        have hp' : ps.length = (partsOf l[i].f2).length := hp
        rw [w64 (by omega) (by omega)]
        omega
      rw [e2, inc i (by omega)]
      exact ih (i + 1) N' (by omega) hN'
    · refine Base.Ev.ite_neg c ?_
      rw [if_neg c] at ht
      rw [inc i (by omega), show (total N : Int) = ((total N' : Nat) : Int) by omega]
      exact ih (i + 1) N' (by omega) hN'
theorem LinkEnds (l : List S66) (hg : ∀ z ∈ l, GoodStep z) (hl : l.length ≤ 9223372036854775807) : ∃ k, knapsacklaw24_LinkEnds.f k l = some true := by
  apply Ev.rounds
  unfold knapsacklaw24_LinkEnds.f
  obtain ⟨b, hb, hb2⟩ := few_ev l hl
  refine Ev.bind hb ?_
  cases b with
  | false => exact Base.Ev.ite_neg (by simp) knows_ev
  | true =>
    obtain ⟨h1, h2⟩ := hb2 rfl
    exact Base.Ev.ite_pos rfl (ends_l0 l h1 h2 hg l.length 0 net0 (by omega) inv0)
end Go.Proofs.Ytnmnplbjhejejaa.Pure
