/- []Ref that is only read; few. -/
import Derived.Test.YtklbemgepeleoaaRf2
set_option linter.unusedVariables false
set_option linter.unusedSimpArgs false
namespace Go.Proofs.Ytklbemgepeleoaa.Rf
open Go.RowKit Go.Proofs.Ytklbemgepeleoaa.Lk Go.Proofs.YtklbemgepeleoaaW.PrintWords Go.Proofs.YtklbemgepeleoaaW.PrintLast Go.Proofs.YtklbemgepeleoaaW.PrintMore
attribute [local go_sem] max2_int min2_int max_two min_two max_three min_three max_four min_four
attribute [-simp] Try.isAgg37 Try.isAgg54 Try.isAgg39
attribute [-go_sem] Instr.loadAt
theorem add_add_ (a : Addr) (i j : Nat) : (a.add i).add j = a.add (i + j) := by
  unfold Addr.add
  by_cases hi : i = 0
  · subst hi; simp
  · by_cases hj : j = 0
    · subst hj; simp [hi]
    · have : ¬ i + j = 0 := by omega
      simp [hi, hj, this, Nat.add_assoc]
/-- The value of a type with cells that is read where an address leads. -/
theorem run_loadAt_any {P : Program} (w : World) (a : Addr) (ty : TypeId) (cs : List Value) (d : TypeDesc) (hc : ∀ j v, cs[j]? = some v → w.cell? (a.add j) = some v)
    (hu : P.underlying ty = some d) (hd : d.isRow = true) (hi : (P.info? ty).map (·.size) = some cs.length) :
    (Instr.loadAt ty (.pointer (some a))).run P w = .ok (.agg cs.toArray) w := by
  have hl : (loadCells a cs.length).run P w = .ok cs.toArray w := run_loadCells_list (P := P) w a cs hc
  have hv : (loadVar ty a).run P w = .ok (.agg cs.toArray) w := by
    cases hq : P.info? ty with
    | none => simp [hq] at hi
    | some i =>
      have hs : i.size = cs.length := by simpa [hq] using hi
      have hagg : (isAgg ty).run P w = .ok true w := by
        unfold isAgg
        rw [Sem.run_bind, run_underlying hu w]
        cases d <;> simp_all
      simp [loadVar, Sem.run_bind, hagg, sizeOf, typeInfo, hq, hs, hl]
  simp only [Instr.loadAt, Instr.sureAddr, Sem.run_bind, Sem.run_pure, Result.andThen_ok, hv]
/-- Refs that a slice leads to. -/
structure RdL (w : World) (A : Option Addr) (c : Nat) (l : List RefE) : Prop where
  cap : l.length ≤ c
  good : Good32 l
  cell : ∀ j u, (rcells l)[j]? = some u → ∃ a, A = some a ∧ w.cell? (a.add j) = some u
theorem RdL.at {w : World} {A : Option Addr} {c : Nat} {l : List RefE} (h : RdL w A c l) (k : Nat) (hk : k < l.length) :
    ∃ a, A = some a ∧ ∀ j v, (rcell l[k])[j]? = some v → w.cell? ((a.add (k * 33)).add j) = some v := by
  have hl := rcell_length (h.good l[k] (List.getElem_mem hk))
  have h0 := rcells_at l h.good k hk 0 (by omega)
  obtain ⟨a, ha, _⟩ := h.cell (k * 33 + 0) (.string l[k].1) (by rw [h0]; rfl)
  refine ⟨a, ha, fun j v hv => ?_⟩
  have hj : j < 33 := by
    have := (List.getElem?_eq_some_iff.mp hv).1
    omega
  obtain ⟨a', ha', hc⟩ := h.cell (k * 33 + j) v (by rw [rcells_at l h.good k hk j hj]; exact hv)
  rw [ha] at ha'
  obtain rfl := Option.some.inj ha'
  rw [add_add_]
  exact hc
theorem RdL.below {w w' : World} {A : Option Addr} {c : Nat} {l : List RefE} (h : RdL w A c l) (hb : Below w.heap.size w w') : RdL w' A c l := by
  refine ⟨h.cap, h.good, fun j u hu => ?_⟩
  obtain ⟨a, ha, hc⟩ := h.cell j u hu
  exact ⟨a, ha, pw_cell_below hb hc⟩
theorem RdL.of_C {w : World} {A : Option Addr} {c : Nat} {l : List RefE} (h : Kd.C kRef w A l.length l) (hc : l.length ≤ c) : RdL w A c l := by
  obtain ⟨_, _, h3⟩ := h
  have hg : Good32 l := by
    intro x hx
    obtain ⟨k, hk, rfl⟩ := List.getElem_of_mem hx
    obtain ⟨ad, e, hh⟩ := h3 (by omega)
    obtain ⟨cs, _, hr, _⟩ := hh k _ (List.getElem?_eq_getElem hk)
    exact hr.2
  refine ⟨hc, hg, fun j u hu => ?_⟩
  have hlt := (List.getElem?_eq_some_iff.mp hu).1
  rw [rcells_length l hg] at hlt
  have hk : j / 33 < l.length := by omega
  obtain ⟨ad, e, hh⟩ := h3 (by omega)
  obtain ⟨cs, _, hr, hcell⟩ := hh (j / 33) _ (List.getElem?_eq_getElem hk)
  have hj : j = j / 33 * 33 + j % 33 := by omega
  refine ⟨ad, e, ?_⟩
  rw [hj, rcells_at l hg _ hk _ (by omega), ← hr.1] at hu
  have := hcell _ _ hu
  rw [hj]
  exact this
theorem RdL.of_rw {w : World} {v : Value} {l : List RefE} (h : Rw w 54 33 v l.length (rcells l)) (hg : Good32 l) : ∃ A c, v = .slice A l.length c ∧ RdL w A c l := by
  obtain ⟨A, c, rfl, hc, hcell⟩ := h.form
  exact ⟨A, c, rfl, hc, hg, hcell⟩
def ucells (l : List UpE) : List Value := l.flatMap ucell
def Good64 (l : List UpE) : Prop := ∀ x ∈ l, x.2.1.length = 32 ∧ x.2.2.length = 32
theorem ucell_length {x : UpE} (h : x.2.1.length = 32 ∧ x.2.2.length = 32) : (ucell x).length = 65 := by simp [ucell, idc, h.1, h.2]
theorem ucells_length (l : List UpE) (h : Good64 l) : (ucells l).length = l.length * 65 := by
  induction l with
  | nil => rfl
  | cons x l ih =>
    have h1 := ucell_length (h x (by simp))
    have h2 := ih (fun y hy => h y (by simp [hy]))
    simp only [ucells, List.flatMap_cons, List.length_append, List.length_cons] at h2 ⊢
    omega
theorem ucells_at (l : List UpE) (h : Good64 l) (j : Nat) (hj : j < l.length) (q : Nat) (hq : q < 65) : (ucells l)[j * 65 + q]? = (ucell l[j])[q]? := by
  induction l generalizing j with
  | nil => simp at hj
  | cons x l ih =>
    have h1 := ucell_length (h x (by simp))
    cases j with
    | zero =>
      simp only [ucells, List.flatMap_cons, Nat.zero_mul, Nat.zero_add, List.getElem_cons_zero]
      rw [List.getElem?_append_left (by omega)]
    | succ j =>
      have h2 := ih (fun y hy => h y (by simp [hy])) j (by simpa using hj)
      simp only [ucells, List.flatMap_cons, List.getElem_cons_succ] at h2 ⊢
      rw [List.getElem?_append_right (by omega), h1, ← h2]
      congr 1
      omega
/-- Updates that a slice leads to. -/
structure RdU (w : World) (A : Option Addr) (c : Nat) (l : List UpE) : Prop where
  cap : l.length ≤ c
  good : Good64 l
  cell : ∀ j u, (ucells l)[j]? = some u → ∃ a, A = some a ∧ w.cell? (a.add j) = some u
theorem RdU.at {w : World} {A : Option Addr} {c : Nat} {l : List UpE} (h : RdU w A c l) (k : Nat) (hk : k < l.length) :
    ∃ a, A = some a ∧ ∀ j v, (ucell l[k])[j]? = some v → w.cell? ((a.add (k * 65)).add j) = some v := by
  have hl := ucell_length (h.good l[k] (List.getElem_mem hk))
  have h0 := ucells_at l h.good k hk 0 (by omega)
  obtain ⟨a, ha, _⟩ := h.cell (k * 65 + 0) (.string l[k].1) (by rw [h0]; rfl)
  refine ⟨a, ha, fun j v hv => ?_⟩
  have hj : j < 65 := by
    have := (List.getElem?_eq_some_iff.mp hv).1
    omega
  obtain ⟨a', ha', hc⟩ := h.cell (k * 65 + j) v (by rw [ucells_at l h.good k hk j hj]; exact hv)
  rw [ha] at ha'
  obtain rfl := Option.some.inj ha'
  rw [add_add_]
  exact hc
theorem RdU.below {w w' : World} {A : Option Addr} {c : Nat} {l : List UpE} (h : RdU w A c l) (hb : Below w.heap.size w w') : RdU w' A c l := by
  refine ⟨h.cap, h.good, fun j u hu => ?_⟩
  obtain ⟨a, ha, hc⟩ := h.cell j u hu
  exact ⟨a, ha, pw_cell_below hb hc⟩
theorem RdU.of_C {w : World} {A : Option Addr} {c : Nat} {l : List UpE} (h : Kd.C kUp w A l.length l) (hc : l.length ≤ c) : RdU w A c l := by
  obtain ⟨_, _, h3⟩ := h
  have hg : Good64 l := by
    intro x hx
    obtain ⟨k, hk, rfl⟩ := List.getElem_of_mem hx
    obtain ⟨ad, e, hh⟩ := h3 (by omega)
    obtain ⟨cs, _, hr, _⟩ := hh k _ (List.getElem?_eq_getElem hk)
    exact hr.2
  refine ⟨hc, hg, fun j u hu => ?_⟩
  have hlt := (List.getElem?_eq_some_iff.mp hu).1
  rw [ucells_length l hg] at hlt
  have hk : j / 65 < l.length := by omega
  obtain ⟨ad, e, hh⟩ := h3 (by omega)
  obtain ⟨cs, _, hr, hcell⟩ := hh (j / 65) _ (List.getElem?_eq_getElem hk)
  have hj : j = j / 65 * 65 + j % 65 := by omega
  refine ⟨ad, e, ?_⟩
  rw [hj, ucells_at l hg _ hk _ (by omega), ← hr.1] at hu
  have := hcell _ _ hu
  rw [hj]
  exact this
end Go.Proofs.Ytklbemgepeleoaa.Rf
