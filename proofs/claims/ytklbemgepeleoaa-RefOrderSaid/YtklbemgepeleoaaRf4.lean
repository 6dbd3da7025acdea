/- ref's law: few, short. -/
import Derived.Test.YtklbemgepeleoaaRf3
import Derived.Deep.QuietTactic
import Derived.BigQuiet
set_option linter.unusedVariables false
set_option linter.unusedSimpArgs false
namespace Go.Proofs.Ytklbemgepeleoaa.Rf
open Go.RowKit Go.Proofs.Ytklbemgepeleoaa.Lk Go.Proofs.YtklbemgepeleoaaW.PrintWords Go.Proofs.YtklbemgepeleoaaW.PrintLast Go.Proofs.YtklbemgepeleoaaW.PrintMore
attribute [local go_sem] max2_int min2_int max_two min_two max_three min_three max_four min_four
/-- The name of an element. -/
theorem RdL.name {w : World} {A : Option Addr} {c : Nat} {l : List RefE} (h : RdL w A c l) (k : Nat) (hk : k < l.length) : ∃ a, A = some a ∧ w.cell? (a.add (k * 33)) = some (.string l[k].1) := by
  obtain ⟨a, ha, hc⟩ := h.at k hk
  refine ⟨a, ha, ?_⟩
  have := hc 0 (.string l[k].1) rfl
  rwa [add_add_, Nat.add_zero] at this
set_option maxHeartbeats 2000000 in
set_option maxRecDepth 100000 in
theorem few_calls (w : World) (A : Option Addr) (c : Nat) (l : List RefE) (h : RdL w A c l) : Calls Try.prog 7 #[.slice A l.length c] w fun e w' => ∃ b, e = .returned (.bool b) ∧ (b = true → l.length ≤ 70 ∧ ∀ x ∈ l, x.1.size ≤ 100) ∧ Below w.heap.size w w' := by
  have HR := Aside0.mk h
  clear h
  go_enter Try.func7, Try.ntmps7
  go_wp2
  go_loopw [3] (fun v3 w' => ∃ k : Nat, v3 = .int .i64 (k : Int) ∧ k ≤ 70 ∧ k ≤ l.length ∧ Aside0 (∀ j, (hj : j < l.length) → j < k → l[j].1.size ≤ 100) ∧ Aside0 (Below w.heap.size w w')) (fun v3 _ => 70 - (intOf v3).toNat)
  case atStart => exact ⟨0, rfl, by omega, Nat.zero_le _, ⟨fun j _ hj => by omega⟩, ⟨Below.refl _ _⟩⟩
  case round =>
    obtain ⟨k, rfl, hk70, hk, HN, HB⟩ := hrel
    by_cases hlt : k < l.length
    · have e1 : decide ((k : Int) < (l.length : Int)) = true := decide_eq_true (by omega)
      by_cases h70 : k < 70
      · have e2 : decide ((k : Int) < 70) = true := decide_eq_true (by omega)
        have e3 : (0 : Int) ≤ (k : Int) := by omega
        have e4 : (k : Int) < (l.length : Int) := by omega
        obtain ⟨a, rfl, y1⟩ := (HR.out.below HB.out).name k hlt
        obtain ⟨nm, hnm⟩ : ∃ nm, l[k].1 = nm := ⟨_, rfl⟩
        rw [hnm] at y1
        by_cases hs : nm.size ≤ 100
        · have e5 : decide ((100 : Int) < (nm.size : Int)) = false := decide_eq_false (by omega)
          go_wp2
          go_roundw
          case rel => exact ⟨k + 1, by go_num, by omega, by omega, ⟨fun j hj hjk => by
            by_cases e : j = k
            · subst e; rw [hnm]; exact hs
            · exact HN.out j hj (by omega)⟩, HB⟩
          case measure => simp [intOf]; omega
        · have e5 : decide ((100 : Int) < (nm.size : Int)) = true := decide_eq_true (by omega)
          go_wp2
          go_ret
          exact ⟨false, rfl, by simp, HB.out⟩
      · have e2 : decide ((k : Int) < 70) = false := decide_eq_false (by omega)
        have e5 : decide ((l.length : Int) ≤ 70) = false := decide_eq_false (by omega)
        go_wp2
        go_ret
        exact ⟨false, rfl, by simp, HB.out⟩
    · have e1 : decide ((k : Int) < (l.length : Int)) = false := decide_eq_false (by omega)
      have e5 : decide ((l.length : Int) ≤ 70) = true := decide_eq_true (by omega)
      go_wp2
      go_ret
      refine ⟨true, rfl, fun _ => ⟨by omega, fun x hx => ?_⟩, HB.out⟩
      obtain ⟨j, hj, rfl⟩ := List.getElem_of_mem hx
      exact HN.out j hj (by omega)
/-- The name of an element. -/
theorem RdU.name {w : World} {A : Option Addr} {c : Nat} {l : List UpE} (h : RdU w A c l) (k : Nat) (hk : k < l.length) : ∃ a, A = some a ∧ w.cell? (a.add (k * 65)) = some (.string l[k].1) := by
  obtain ⟨a, ha, hc⟩ := h.at k hk
  refine ⟨a, ha, ?_⟩
  have := hc 0 (.string l[k].1) rfl
  rwa [add_add_, Nat.add_zero] at this
set_option maxHeartbeats 2000000 in
set_option maxRecDepth 100000 in
theorem short_calls (w : World) (A : Option Addr) (c : Nat) (l : List UpE) (h : RdU w A c l) : Calls Try.prog 8 #[.slice A l.length c] w fun e w' => ∃ b, e = .returned (.bool b) ∧ (b = true → l.length ≤ 30 ∧ ∀ x ∈ l, x.1.size ≤ 100) ∧ Below w.heap.size w w' := by
  have HR := Aside0.mk h
  clear h
  go_enter Try.func8, Try.ntmps8
  go_wp2
  go_loopw [3] (fun v3 w' => ∃ k : Nat, v3 = .int .i64 (k : Int) ∧ k ≤ 30 ∧ k ≤ l.length ∧ Aside0 (∀ j, (hj : j < l.length) → j < k → l[j].1.size ≤ 100) ∧ Aside0 (Below w.heap.size w w')) (fun v3 _ => 30 - (intOf v3).toNat)
  case atStart => exact ⟨0, rfl, by omega, Nat.zero_le _, ⟨fun j _ hj => by omega⟩, ⟨Below.refl _ _⟩⟩
  case round =>
    obtain ⟨k, rfl, hk70, hk, HN, HB⟩ := hrel
    by_cases hlt : k < l.length
    · have e1 : decide ((k : Int) < (l.length : Int)) = true := decide_eq_true (by omega)
      by_cases h70 : k < 30
      · have e2 : decide ((k : Int) < 30) = true := decide_eq_true (by omega)
        have e3 : (0 : Int) ≤ (k : Int) := by omega
        have e4 : (k : Int) < (l.length : Int) := by omega
        obtain ⟨a, rfl, y1⟩ := (HR.out.below HB.out).name k hlt
        obtain ⟨nm, hnm⟩ : ∃ nm, l[k].1 = nm := ⟨_, rfl⟩
        rw [hnm] at y1
        by_cases hs : nm.size ≤ 100
        · have e5 : decide ((100 : Int) < (nm.size : Int)) = false := decide_eq_false (by omega)
          go_wp2
          go_roundw
          case rel => exact ⟨k + 1, by go_num, by omega, by omega, ⟨fun j hj hjk => by
            by_cases e : j = k
            · subst e; rw [hnm]; exact hs
            · exact HN.out j hj (by omega)⟩, HB⟩
          case measure => simp [intOf]; omega
        · have e5 : decide ((100 : Int) < (nm.size : Int)) = true := decide_eq_true (by omega)
          go_wp2
          go_ret
          exact ⟨false, rfl, by simp, HB.out⟩
      · have e2 : decide ((k : Int) < 30) = false := decide_eq_false (by omega)
        have e5 : decide ((l.length : Int) ≤ 30) = false := decide_eq_false (by omega)
        go_wp2
        go_ret
        exact ⟨false, rfl, by simp, HB.out⟩
    · have e1 : decide ((k : Int) < (l.length : Int)) = false := decide_eq_false (by omega)
      have e5 : decide ((l.length : Int) ≤ 30) = true := decide_eq_true (by omega)
      go_wp2
      go_ret
      refine ⟨true, rfl, fun _ => ⟨by omega, fun x hx => ?_⟩, HB.out⟩
      obtain ⟨j, hj, rfl⟩ := List.getElem_of_mem hx
      exact HN.out j hj (by omega)
end Go.Proofs.Ytklbemgepeleoaa.Rf
