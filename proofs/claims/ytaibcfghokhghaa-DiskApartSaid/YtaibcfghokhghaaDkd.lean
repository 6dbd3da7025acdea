/- DiskApart: the contract in the row's words. -/
import Derived.Test.YtaibcfghokhghaaDkc
set_option linter.unusedVariables false
set_option linter.unusedSimpArgs false
namespace Go.Proofs.Ytaibcfghokhghaa.PA
open Go.RowKit Go.Proofs.YtaibcfghokhghaaW.PrintWords Go.Proofs.YtaibcfghokhghaaW.PrintLast Go.Proofs.YtaibcfghokhghaaW.PrintMore Go.Proofs.Ytaibcfghokhghaa.Lk Go.Proofs.Ytaibcfghokhghaa.Dk
def ActWf (x : S33) : Prop := ((Lit.int .u8 x.f0).wf = true) ∧ (x.f1.size ≤ 9223372036854775807) ∧ (x.f2.size ≤ 9223372036854775807) ∧ ((Lit.int .i64 x.f3).wf = true) ∧ ((Lit.int .i64 x.f4).wf = true)
/-- Arguments as Go has them. -/
structure ApartOk (l0 l1 : List S33) : Prop where
  g0 : ∀ z ∈ l0, ActWf z
  n0 : l0.length ≤ 9223372036854775807
  g1 : ∀ z ∈ l1, ActWf z
  n1 : l1.length ≤ 9223372036854775807
open Classical in
/-- True at any arguments that Go has: apart_yes and apart_no. -/
noncomputable def knapsacklaw21_DiskApart.f (k : Nat) (l0 l1 : List S33) (x0 : Int) (x1 x2 : ByteArray) (x3 x4 : Int) : Option Bool := if ApartOk l0 l1 then some true else none
theorem fine_of (l : List S33) (h : ∀ z ∈ l, ActWf z) (hs : ∀ j, (h : j < l.length) → l[j].f2.size ≤ 100) : ∀ j, (h : j < l.length) → Fine l[j] := by
  intro j hj
  obtain ⟨a, _, _, b, _⟩ := h _ (List.getElem_mem hj)
  exact ⟨Dp.u8_of a, hs j hj, Dp.i64_of b⟩
theorem knapsacklaw21_DiskApart.calls (k : Nat) (A0 : Option Addr) (c0 : Nat) (l0 : List S33) (A1 : Option Addr) (c1 : Nat) (l1 : List S33) (x0 : Int) (x1 x2 : ByteArray) (x3 x4 : Int) (r : Bool) (w : World)
    (hr0 : Kd.C k33 w A0 l0.length l0) (hc0 : l0.length ≤ c0) (hr1 : Kd.C k33 w A1 l1.length l1) (hc1 : l1.length ≤ c1) (h : knapsacklaw21_DiskApart.f k l0 l1 x0 x1 x2 x3 x4 = some r) :
    Calls Try.prog 4 #[.slice A0 l0.length c0, .slice A1 l1.length c1, .agg #[.int .u8 x0, .string x1, .string x2, .int .i64 x3, .int .i64 x4]] w fun e w' => e = .returned (.bool r) ∧ Below w.heap.size w w' := by
  unfold knapsacklaw21_DiskApart.f at h
  by_cases ho : ApartOk l0 l1
  · rw [if_pos ho] at h
    obtain rfl := Option.some.inj h
    obtain ⟨k0, ra, e0, s0⟩ := few_good l0 ho.n0
    obtain ⟨k1, rb, e1, s1⟩ := few_good l1 ho.n1
    by_cases hx : ra = true ∧ rb = true ∧ x1.size ≤ 20 ∧ x2.size ≤ 100
    · obtain ⟨rfl, rfl, h1, h2⟩ := hx
      obtain ⟨n0, d0⟩ := s0 rfl
      obtain ⟨n1, d1⟩ := s1 rfl
      exact apart_yes k0 k1 A0 c0 l0 A1 c1 l1 x0 x1 x2 x3 x4 w hr0 hc0 hr1 hc1 e0 e1 h1 h2 n0 n1 (fine_of l0 ho.g0 d0) (fine_of l1 ho.g1 d1)
    · refine apart_no k0 k1 A0 c0 l0 A1 c1 l1 x0 x1 x2 x3 x4 ra rb w hr0 hc0 hr1 hc1 e0 e1 ?_
      cases ra with
      | false => exact .inl rfl
      | true =>
        cases rb with
        | false => exact .inr (.inl rfl)
        | true =>
          by_cases h1 : x1.size ≤ 20
          · by_cases h2 : x2.size ≤ 100
            · exact absurd ⟨rfl, rfl, h1, h2⟩ hx
            · exact .inr (.inr (.inr (by omega)))
          · exact .inr (.inr (.inl (by omega)))
  · rw [if_neg ho] at h
    exact absurd h (by simp)
end Go.Proofs.Ytaibcfghokhghaa.PA
