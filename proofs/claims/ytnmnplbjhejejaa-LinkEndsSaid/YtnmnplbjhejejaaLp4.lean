/- link, in plain Lean: the law's other functions (few, Same, prefix, knows). -/
import Derived.Test.YtnmnplbjhejejaaLp3
import Derived.Test.YtnmnplbjhejejaaLkf
import Derived.Test.YtnmnplbjhejejaaCs
set_option linter.unusedVariables false
set_option linter.unusedSimpArgs false
namespace Go.Proofs.Ytnmnplbjhejejaa.Lp
open Go.RowKit Go.Proofs.YtnmnplbjhejejaaW.PrintWords Go.Proofs.YtnmnplbjhejejaaW.PrintLast Go.Proofs.YtnmnplbjhejejaaW.PrintMore Go.Proofs.Ytnmnplbjhejejaa.PA Go.Proofs.Ytnmnplbjhejejaa.Base Go.Proofs.Ytnmnplbjhejejaa.Lk
open Go.Proofs.Ytnmnplbjhejejaa.Vi
open Go.Proofs.Ytnmnplbjhejejaa.Cr (seal_ open_ seal_length open_seal open_turned seal_ev open_ev opened)

def GoodStep (x : S66) : Prop := ((Lit.int .u8 x.f0).wf = true) ∧ ((Lit.int .u8 x.f1).wf = true) ∧ (x.f2.size ≤ 9223372036854775807) ∧ ((Lit.int .u8 x.f3).wf = true) ∧ ((Lit.int .u8 x.f4).wf = true) ∧ ((Lit.int .u8 x.f5).wf = true)
theorem u8_of {a : Int} (h : (Lit.int .u8 a).wf = true) : 0 ≤ a ∧ a ≤ 255 := by
  simp [Lit.wf, IntKind.min, IntKind.max, IntKind.signed, IntKind.bits] at h
  omega
theorem okS_of {x : S66} (h : GoodStep x) : okS x := ⟨u8_of h.1, u8_of h.2.1, u8_of h.2.2.2.1, u8_of h.2.2.2.2.1, u8_of h.2.2.2.2.2⟩
theorem rd66 (l : List S66) (i : Nat) (h : i < l.length) : rd_T66 l (i : Int) = l[i] := by
  unfold rd_T66
  rw [Int.toNat_natCast, List.getD_eq_getElem?_getD, List.getElem?_eq_getElem h]
  rfl
theorem inc (i : Nat) (h : i ≤ 1000000000) : wrap64 ((i : Int) + 1) = ((i + 1 : Nat) : Int) := by rw [w64 (by omega) (by omega)]; omega
/-- What few comes to: if it says yes, the steps are few and their texts short. -/
theorem few_l0 (l : List S66) (hl : l.length ≤ 9223372036854775807) (d : Nat) : ∀ i : Nat, 81 - i ≤ d → i ≤ 81 → (∀ j, (h : j < l.length) → j < i → l[j].f2.size ≤ 700) →
    ∃ b, Ev (fun k => knapsacklaw24_few.l0 k l (i : Int)) b ∧ (b = true → l.length ≤ 80 ∧ ∀ j, (h : j < l.length) → l[j].f2.size ≤ 700) := by
  induction d with
  | zero =>
    intro i h1 h2 h3
    obtain rfl : i = 81 := by omega
    refine ⟨decide ((l.length : Int) ≤ 80), ?_, fun hb => ?_⟩
    · refine Ev.step (fun k => by rw [knapsacklaw24_few.l0]) ?_
      by_cases c : ((81 : Nat) : Int) < (l.length : Int)
      · refine Base.Ev.ite_pos c ?_
        refine Ev.step (fun k => by rw [knapsacklaw24_few.j1]) ?_
        refine Base.Ev.ite_neg (by simp) ?_
        exact Ev.now _
      · refine Base.Ev.ite_neg c ?_
        refine Ev.step (fun k => by rw [knapsacklaw24_few.j1]) ?_
        refine Base.Ev.ite_neg (by simp) ?_
        exact Ev.now _
    · have := of_decide_eq_true hb
      exact ⟨by omega, fun j hj => h3 j hj (by omega)⟩
  | succ d ih =>
    intro i h1 h2 h3
    by_cases c : (i : Int) < (l.length : Int)
    · by_cases c8 : i < 80
      · by_cases cs : l[i].f2.size ≤ 700
        · obtain ⟨b, hb, hb2⟩ := ih (i + 1) (by omega) (by omega) (fun j hj hji => by
            by_cases e : j = i
            · subst e; exact cs
            · exact h3 j hj (by omega))
          refine ⟨b, ?_, hb2⟩
          refine Ev.step (fun k => by rw [knapsacklaw24_few.l0]) ?_
          refine Base.Ev.ite_pos c ?_
          refine Ev.step (fun k => by rw [knapsacklaw24_few.j1]) ?_
          refine Base.Ev.ite_pos (by rw [decide_eq_true (by omega)]) ?_
          refine Base.Ev.ite_pos (by omega) ?_
          refine Base.Ev.ite_pos c ?_
          refine Base.Ev.ite_neg (by rw [rd66 l i (by omega)]; omega) ?_
          rw [inc i (by omega)]
          exact hb
        · refine ⟨false, ?_, fun h => by simp at h⟩
          refine Ev.step (fun k => by rw [knapsacklaw24_few.l0]) ?_
          refine Base.Ev.ite_pos c ?_
          refine Ev.step (fun k => by rw [knapsacklaw24_few.j1]) ?_
          refine Base.Ev.ite_pos (by rw [decide_eq_true (by omega)]) ?_
          refine Base.Ev.ite_pos (by omega) ?_
          refine Base.Ev.ite_pos c ?_
          refine Base.Ev.ite_pos (by rw [rd66 l i (by omega)]; omega) ?_
          exact Ev.now _
      · refine ⟨decide ((l.length : Int) ≤ 80), ?_, fun hb => ?_⟩
        · refine Ev.step (fun k => by rw [knapsacklaw24_few.l0]) ?_
          refine Base.Ev.ite_pos c ?_
          refine Ev.step (fun k => by rw [knapsacklaw24_few.j1]) ?_
          refine Base.Ev.ite_neg (by rw [decide_eq_false (by omega)]; simp) ?_
          exact Ev.now _
        · have := of_decide_eq_true hb
          omega
    · refine ⟨decide ((l.length : Int) ≤ 80), ?_, fun hb => ?_⟩
      · refine Ev.step (fun k => by rw [knapsacklaw24_few.l0]) ?_
        refine Base.Ev.ite_neg c ?_
        refine Ev.step (fun k => by rw [knapsacklaw24_few.j1]) ?_
        refine Base.Ev.ite_neg (by simp) ?_
        exact Ev.now _
      · have := of_decide_eq_true hb
        exact ⟨by omega, fun j hj => h3 j hj (by omega)⟩
theorem few_ev (l : List S66) (hl : l.length ≤ 9223372036854775807) : ∃ b, Ev (fun k => knapsacklaw24_few.f k l) b ∧ (b = true → l.length ≤ 80 ∧ ∀ j, (h : j < l.length) → l[j].f2.size ≤ 700) :=
  few_l0 l hl 81 0 (by omega) (by omega) (fun j _ h => by omega)
theorem same_l0 (l : List ByteArray) (hl : l.length ≤ 1000000) (d : Nat) : ∀ i : Nat, i + d = l.length → Ev (fun k => knapsackref16_Same.l0 k l l (i : Int)) true := by
  induction d with
  | zero =>
    intro i h
    refine Ev.step (fun k => by rw [knapsackref16_Same.l0]) ?_
    refine Base.Ev.ite_neg (by omega) ?_
    exact Ev.now _
  | succ d ih =>
    intro i h
    refine Ev.step (fun k => by rw [knapsackref16_Same.l0]) ?_
    refine Base.Ev.ite_pos (by omega) ?_
    refine Base.Ev.ite_pos (by omega) ?_
    refine Base.Ev.ite_pos (by omega) ?_
    refine Base.Ev.ite_pos rfl ?_
    rw [inc i (by omega)]
    exact ih (i + 1) (by omega)
theorem same_ev (l : List ByteArray) (hl : l.length ≤ 1000000) : Ev (fun k => knapsackref16_Same.f k l l) true := by
  unfold knapsackref16_Same.f
  exact Base.Ev.ite_pos rfl (same_l0 l hl l.length 0 (by omega))
theorem prefix_ev (a b : List ByteArray) (h : a <+: b) (hl : b.length ≤ 1000000) : Ev (fun k => knapsacklaw24_prefix.f k a b) true := by
  have h1 := h.length_le
  unfold knapsacklaw24_prefix.f
  refine Base.Ev.ite_pos h1 ?_
  rw [← List.prefix_iff_eq_take.mp h]
  exact same_ev a (by omega)
theorem hi_parts : partsGo 2 hiB = [(hiB, true)] := by
  rw [partsGo, if_neg (by decide)]
theorem knows_ev : Ev (fun k => knowsF k) true := by
  unfold knowsF
  have h1 := sendF_ev 2 hiB [] (by decide) (by decide)
  rw [hi_parts, List.nil_append] at h1
  refine Ev.bind h1 ?_
  have h2 := recvF_bad { newEn 7 with parts := [(hiB, true)] } [] (read_bad [] 2 (by simp) (by simp [open_]) (by decide))
  refine Ev.bind h2 ?_
  refine Base.Ev.ite_pos ⟨rfl, rfl, by simp⟩ ?_
  have h3 : Ev (fun k => tickF k { newEn 7 with parts := [(hiB, true)] }) (mkB (pktL 7 1 [104, 105] true 0)) := pkt_ev 7 1 [104, 105] true 0 (by omega) (by omega) (by simp) (by omega)
  refine Ev.bind h3 ?_
  have h4 := Go.Proofs.Ytnmnplbjhejejaa.Cr.rseal_ev [7, 1, 1, 2, 104, 105, 0] (by simp)
  have e : bodyL 7 1 [104, 105] true 0 = [7, 1, 1, 2, 104, 105, 0] := by simp [bodyL, enc, lastL]
  unfold pktL
  rw [e]
  refine Ev.bind h4 ?_
  refine Base.Ev.ite_pos rfl ?_
  exact Ev.now _
theorem inv0 : Inv net0 0 := by
  have f : Flow [] [] 0 0 0 nobytes [] [] := ⟨rfl, Nat.le_refl _, by omega, Nat.zero_le _, rfl, fun p hp => by simp at hp⟩
  exact ⟨⟨0, 0, 0, 0, [], [], ⟨rfl, rfl, rfl, rfl, rfl, rfl, f, f, rfl, rfl⟩⟩, rfl, fun j => Nat.le_refl _, fun m hm => by simp [net0] at hm, fun m hm => by simp [net0] at hm⟩
end Go.Proofs.Ytnmnplbjhejejaa.Lp
