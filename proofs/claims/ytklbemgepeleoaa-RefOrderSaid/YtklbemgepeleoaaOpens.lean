/- Arguments of any make (whole numbers, bools, strings, structs, arrays, slices of these) opened into the print's words. Plain lemmas over whatever program. -/
import Derived.Test.YtklbemgepeleoaaWMore
import Derived.ProofKit
import Derived.OpenShut
import Derived.ChangeOld
import Derived.Below
import Derived.SizedLaws
import Derived.Deep.Slices
import Derived.ChangeSame
import Derived.ChangeArms
set_option linter.unusedVariables false
set_option linter.unusedSimpArgs false
namespace Go.Proofs.Ytklbemgepeleoaa.Opens
open Go.ChangeShapes Go.WideShapes Go.RowKit Go.Deep Go.Proofs.YtklbemgepeleoaaW.PrintWords Go.Proofs.YtklbemgepeleoaaW.PrintLast Go.Proofs.YtklbemgepeleoaaW.PrintMore
section
variable {H : Type} {enc : TypeId × Value → H} {P : Program} {w : World} {α β : Type}

/-- What reads as a datum of type T is a value as K says. -/
def Opens (enc : TypeId × Value → H) (P : Program) (w : World) (T : TypeId) (K : α → List Value → Prop) (good : α → Prop) : Prop :=
  ∀ (fuel : Nat) (cs : List Value) (y : DataW H × List MemPlace), DataW.trod enc P w 0 (fun _ => true) true fuel T cs = some y → ∃ x, K x cs ∧ good x

theorem Opens.int {T : TypeId} {k : IntKind} (ht : P.underlying T = some (.int k)) : Opens enc P w T ((Kd.int k).K w) (fun x => (Lit.int k x).wf = true) := by
  intro fuel cs y h
  obtain ⟨n, rfl, _, hw⟩ := DataW.trod_int ht h
  exact ⟨n, rfl, hw⟩
theorem Opens.bool {T : TypeId} (ht : P.underlying T = some .bool) : Opens enc P w T (Kd.bool.K w) (fun _ => True) := by
  intro fuel cs y h
  obtain ⟨b, rfl, _⟩ := DataW.trod_bool ht h
  exact ⟨b, rfl, trivial⟩
theorem Opens.string {T : TypeId} (ht : P.underlying T = some .string) : Opens enc P w T (Kd.string.K w) (fun s => s.size ≤ 9223372036854775807) := by
  intro fuel cs y h
  obtain ⟨s, rfl, _, hs⟩ := DataW.trod_string ht h
  exact ⟨s, rfl, by simpa [maxLen] using hs⟩
theorem Opens.slice {T e : TypeId} {d : Kd α} {good : α → Prop} (ht : P.underlying T = some (.slice e)) (hC : P.cellsOf e = d.sz) (hE : Opens enc P w e (d.K w) good) :
    Opens enc P w T ((Kd.slice e d).K w) (fun xs => ∀ x ∈ xs, good x) := by
  intro fuel cs y h
  rcases open_slice ht h with ⟨rfl, _⟩ | ⟨a, len, cap, m, n, D, Pl, rfl, hb, hl, hm, hmm, _, hx⟩
  · refine ⟨[], ⟨none, 0, rfl, Nat.le_refl _, rfl, by simp, fun h => by simp at h⟩, by simp⟩
  · have hmc : len ≤ m := by rw [hmm]; simpa using hl
    have hlm : len ≤ 9223372036854775807 := by simp only [maxLen] at hm; omega
    have key : ∀ j, j ≤ len → ∃ xs : List α, xs.length = j ∧ (∀ x ∈ xs, good x) ∧ ∀ i p, xs[i]? = some p → ∃ c, c.length = d.sz ∧ d.K w p c ∧ ∀ q u, c[q]? = some u → w.cell? (a.add (i * d.sz + q)) = some u := by
      intro j
      induction j with
      | zero => intro _; exact ⟨[], rfl, by simp, fun i p h => by simp at h⟩
      | succ j ih =>
        intro hj
        obtain ⟨xs, hxl, hg, hxs⟩ := ih (by omega)
        obtain ⟨cs', hcs, htr⟩ := hx j (by omega)
        obtain ⟨x, hK, hgx⟩ := hE n cs' _ htr
        rw [hC] at hcs
        obtain ⟨_, hclen, hcell⟩ := World.cells?_some hcs
        refine ⟨xs ++ [x], by simp [hxl], ?_, ?_⟩
        · intro z hz
          rcases List.mem_append.1 hz with hz | hz
          · exact hg z hz
          · simp at hz; subst hz; exact hgx
        · intro i p hp
          by_cases hi : i < xs.length
          · rw [List.getElem?_append_left hi] at hp
            exact hxs i p hp
          · have hil := (List.getElem?_eq_some_iff.1 hp).1
            simp at hil
            have hij : i = j := by omega
            subst hij
            rw [List.getElem?_append_right (by omega)] at hp
            simp [hxl] at hp
            subst hp
            refine ⟨cs', hclen, hK, fun q u hu => ?_⟩
            have hq : q < d.sz := by
              have := (List.getElem?_eq_some_iff.1 hu).1
              omega
            rw [← Go.Deep.add_add, hcell q hq, hu]
    obtain ⟨xs, hxl, hg, hxs⟩ := key len (Nat.le_refl _)
    subst hxl
    exact ⟨xs, ⟨some a, cap, rfl, hl, rfl, hlm, fun _ => ⟨a, rfl, hxs⟩⟩, hg⟩

/-! ### arguments -/
theorem top_slice {r : Reach} {b0 : Nat} {T e : TypeId} {d : Kd α} {good : α → Prop} {v : Value} {dd : DataW H} {ps : List MemPlace} (ht : P.underlying T = some (.slice e)) (hC : P.cellsOf e = d.sz) (hE : Opens enc P w e (d.K w) good)
    (hv : Value.okWide P w r b0 T v) (h : DataW.Trod enc P w 0 (fun _ => true) true T v dd ps) :
    ∃ (A : Option Addr) (c : Nat) (xs : List α), v = .slice A xs.length c ∧ d.C w A xs.length xs ∧ xs.length ≤ c ∧ ∀ x ∈ xs, good x := by
  obtain ⟨a, len, cap, rfl⟩ := okWide_slice ht hv
  obtain ⟨fuel, hf⟩ := h
  obtain ⟨xs, ⟨A, c, e1, hc, hC'⟩, hg⟩ := Opens.slice (d := d) ht hC hE fuel _ _ hf
  simp [Value.cells] at e1
  obtain ⟨rfl, rfl, rfl⟩ := e1
  exact ⟨_, _, xs, rfl, hC', hc, hg⟩
theorem top_agg {r : Reach} {b0 : Nat} {T : TypeId} {fs : Array Field} {K : α → List Value → Prop} {good : α → Prop} {v : Value} {dd : DataW H} {ps : List MemPlace} (ht : P.underlying T = some (.struct fs)) (hE : Opens enc P w T K good)
    (hv : Value.okWide P w r b0 T v) (h : DataW.Trod enc P w 0 (fun _ => true) true T v dd ps) :
    ∃ (cs : List Value) (x : α), v = .agg cs.toArray ∧ K x cs ∧ good x := by
  obtain ⟨cs, rfl, _⟩ := okWide_struct ht hv
  obtain ⟨fuel, hf⟩ := h
  obtain ⟨x, hK, hg⟩ := hE fuel _ _ hf
  exact ⟨cs.toList, x, by simp, by simpa [Value.cells] using hK, hg⟩
/-- One field's cells out of a struct's. -/
theorem field_of {fuel : Nat} {fs : Array Field} {cs : List Value} {xs : List (DataW H × List MemPlace)} (hlen : xs.length = fs.size)
    (hf : ∀ (i : Nat) (f : Field), fs[i]? = some f → DataW.trod enc P w 0 (fun _ => true) true fuel f.type ((cs.drop f.offset).take (P.cellsOf f.type)) = xs[i]?) (i : Nat) (f : Field) (hi : fs[i]? = some f) :
    ∃ y, DataW.trod enc P w 0 (fun _ => true) true fuel f.type ((cs.drop f.offset).take (P.cellsOf f.type)) = some y := by
  have hl : i < fs.size := (Array.getElem?_eq_some_iff.1 hi).1
  exact ⟨xs[i]'(by omega), by rw [hf i f hi, List.getElem?_eq_getElem (by omega)]⟩
end
end Go.Proofs.Ytklbemgepeleoaa.Opens
