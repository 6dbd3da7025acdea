/- Names that may be: the program's and the document's. -/
import Derived.Test.YtklbemgepeleoaaPAx1
import Derived.Test.YtklbemgepeleoaaRf4
import Derived.Test.YtklbemgepeleoaaBase
set_option linter.unusedVariables false
set_option linter.unusedSimpArgs false
namespace Go.Proofs.Ytklbemgepeleoaa.Rf
open Go.RowKit Go.Proofs.Ytklbemgepeleoaa.Lk Go.Proofs.YtklbemgepeleoaaW.PrintWords Go.Proofs.YtklbemgepeleoaaW.PrintLast Go.Proofs.YtklbemgepeleoaaW.PrintMore Go.Proofs.Ytklbemgepeleoaa.PA Go.Proofs.Ytklbemgepeleoaa.Base
def okB (b : UInt8) : Bool := decide (33 ≤ b.toNat ∧ b.toNat ≤ 126)
def nameB (s : ByteArray) : Bool := decide (1 ≤ s.size ∧ s.size ≤ 40) && s.data.toList.all okB
theorem inc (i : Nat) (h : i ≤ 1000000000) : wrap64 ((i : Int) + 1) = ((i + 1 : Nat) : Int) := by rw [w64 (by omega) (by omega)]; omega
theorem refname_l0 (l : List UInt8) (hl : l.length ≤ 1000000) (d : Nat) : ∀ i : Nat, i + d = l.length → Ev (fun k => ref_Name.l0 k (mkB l) (l.length : Int) (i : Int)) ((l.drop i).all okB && decide (1 ≤ l.length ∧ l.length ≤ 40)) := by
  induction d with
  | zero =>
    intro i h
    rw [List.drop_eq_nil_of_le (by omega)]
    refine Ev.step (fun k => by rw [ref_Name.l0]) ?_
    refine Base.Ev.ite_neg (by omega) ?_
    by_cases h0 : l = []
    · subst h0
      refine Base.Ev.ite_pos (mkB_toList _) ?_
      exact Ev.now _
    · refine Base.Ev.ite_neg (by rw [mkB_toList]; exact h0) ?_
      have : 1 ≤ l.length := by
        cases l with
        | nil => exact absurd rfl h0
        | cons a l => simp
      refine Base.Ev.eq ?_ (Ev.now _)
      rw [mkB_size]
      simp only [List.all_nil, Bool.true_and]
      by_cases h4 : l.length ≤ 40
      · rw [decide_eq_true (by omega), decide_eq_true (by omega)]
      · rw [decide_eq_false (by omega), decide_eq_false (by omega)]
  | succ d ih =>
    intro i h
    have hi : i < l.length := by omega
    rw [List.drop_eq_getElem_cons hi]
    refine Ev.step (fun k => by rw [ref_Name.l0]) ?_
    refine Base.Ev.ite_pos (by omega) ?_
    refine Base.Ev.ite_pos (by omega) ?_
    refine Base.Ev.ite_pos (by rw [mkB_size]; omega) ?_
    rw [mkB_bt l i hi, List.all_cons]
    by_cases c1 : l[i].toNat ≤ 32
    · refine Base.Ev.ite_pos (by omega) ?_
      rw [show okB l[i] = false by unfold okB; exact decide_eq_false (by omega)]
      exact Ev.now _
    · refine Base.Ev.ite_neg (by omega) ?_
      by_cases c2 : l[i].toNat > 126
      · refine Base.Ev.ite_pos (by omega) ?_
        rw [show okB l[i] = false by unfold okB; exact decide_eq_false (by omega)]
        exact Ev.now _
      · refine Base.Ev.ite_neg (by omega) ?_
        rw [show okB l[i] = true by unfold okB; exact decide_eq_true (by omega), Bool.true_and, inc i (by omega)]
        exact ih (i + 1) (by omega)
theorem refname_ev (s : ByteArray) (hs : s.size ≤ 1000000) : Ev (fun k => ref_Name.f k s) (nameB s) := by
  obtain ⟨l, rfl⟩ := exB s
  rw [mkB_size] at hs
  have := refname_l0 l hs l.length 0 (by omega)
  unfold ref_Name.f nameB
  rw [mkB_size, mkB_data, Bool.and_comm]
  exact this
theorem docname_l0 (l : List UInt8) (hl : l.length ≤ 1000000) (d : Nat) : ∀ i : Nat, i + d = l.length → Ev (fun k => knapsackref09_Name.l0 k (mkB l) (i : Int)) ((l.drop i).all okB) := by
  induction d with
  | zero =>
    intro i h
    rw [List.drop_eq_nil_of_le (by omega)]
    refine Ev.step (fun k => by rw [knapsackref09_Name.l0]) ?_
    refine Base.Ev.ite_neg (by rw [mkB_size]; omega) ?_
    exact Ev.now _
  | succ d ih =>
    intro i h
    have hi : i < l.length := by omega
    rw [List.drop_eq_getElem_cons hi]
    refine Ev.step (fun k => by rw [knapsackref09_Name.l0]) ?_
    refine Base.Ev.ite_pos (by rw [mkB_size]; omega) ?_
    refine Base.Ev.ite_pos (by omega) ?_
    rw [mkB_bt l i hi, List.all_cons]
    by_cases c1 : l[i].toNat < 33
    · refine Base.Ev.ite_pos (by omega) ?_
      rw [show okB l[i] = false by unfold okB; exact decide_eq_false (by omega)]
      exact Ev.now _
    · refine Base.Ev.ite_neg (by omega) ?_
      by_cases c2 : l[i].toNat > 126
      · refine Base.Ev.ite_pos (by omega) ?_
        rw [show okB l[i] = false by unfold okB; exact decide_eq_false (by omega)]
        exact Ev.now _
      · refine Base.Ev.ite_neg (by omega) ?_
        rw [show okB l[i] = true by unfold okB; exact decide_eq_true (by omega), Bool.true_and, inc i (by omega)]
        exact ih (i + 1) (by omega)
theorem docname_ev (s : ByteArray) (hs : s.size ≤ 1000000) : Ev (fun k => knapsackref09_Name.f k s) (nameB s) := by
  obtain ⟨l, rfl⟩ := exB s
  rw [mkB_size] at hs
  have h0 := docname_l0 l hs l.length 0 (by omega)
  rw [List.drop_zero] at h0
  unfold knapsackref09_Name.f nameB
  rw [mkB_size, mkB_data]
  by_cases c1 : l.length < 1
  · refine Base.Ev.ite_pos (by omega) ?_
    refine Ev.step (fun k => by rw [knapsackref09_Name.j0]) ?_
    refine Base.Ev.ite_pos rfl ?_
    rw [decide_eq_false (by omega)]
    exact Ev.now _
  · refine Base.Ev.ite_neg (by omega) ?_
    refine Ev.step (fun k => by rw [knapsackref09_Name.j0]) ?_
    by_cases c2 : l.length > 40
    · refine Base.Ev.ite_pos (decide_eq_true (by omega)) ?_
      rw [decide_eq_false (by omega)]
      exact Ev.now _
    · refine Base.Ev.ite_neg (by rw [decide_eq_false (by omega)]; simp) ?_
      rw [decide_eq_true (by omega), Bool.true_and]
      exact h0
theorem name_calls (s : ByteArray) (hs : s.size ≤ 1000000) (w : World) : Calls Try.prog 21 #[.string s] w fun e w' => e = .returned (.bool (nameB s)) ∧ ∃ m, w' = w.drewN m := by
  obtain ⟨k, hk⟩ := Ev.rounds (refname_ev s hs)
  refine (ref_Name.calls k s _ w hk).mono ?_
  rintro e w' ⟨rfl, hd⟩
  exact ⟨rfl, hd.out⟩
theorem docname_calls (s : ByteArray) (hs : s.size ≤ 1000000) (w : World) : Calls Try.prog 22 #[.string s] w fun e w' => e = .returned (.bool (nameB s)) ∧ ∃ m, w' = w.drewN m := by
  obtain ⟨k, hk⟩ := Ev.rounds (docname_ev s hs)
  refine (knapsackref09_Name.calls k s _ w hk).mono ?_
  rintro e w' ⟨rfl, hd⟩
  exact ⟨rfl, hd.out⟩
end Go.Proofs.Ytklbemgepeleoaa.Rf
