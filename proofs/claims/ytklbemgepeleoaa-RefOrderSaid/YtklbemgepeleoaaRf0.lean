/- refs as lists of cells: a name and 32 numbers; the kind of such an element. -/
import Derived.Test.YtklbemgepeleoaaWMore
set_option linter.unusedVariables false
set_option linter.unusedSimpArgs false
namespace Go.Proofs.Ytklbemgepeleoaa.Rf
open Go.RowKit Go.Proofs.YtklbemgepeleoaaW.PrintWords Go.Proofs.YtklbemgepeleoaaW.PrintLast Go.Proofs.YtklbemgepeleoaaW.PrintMore

abbrev RefE := ByteArray × List Int
def idc (x : List Int) : List Value := x.map (Value.int .u8)
def rcell (x : RefE) : List Value := .string x.1 :: idc x.2
theorem idc_length (x : List Int) : (idc x).length = x.length := by simp [idc]
theorem idc_one (x : List Int) : ∀ u ∈ idc x, u.oneCell' = true := by
  intro u hu
  obtain ⟨n, _, rfl⟩ := List.mem_map.mp hu
  rfl
theorem rcell_one (x : RefE) : ∀ u ∈ rcell x, u.oneCell' = true := by
  intro u hu
  rcases List.mem_cons.mp hu with rfl | hu
  · rfl
  · exact idc_one _ u hu
/-- An element of n numbers behind a name. -/
def kRef : Kd RefE where
  sz := 33
  E := []
  K := fun _ x cs => cs = rcell x ∧ x.2.length = 32
  M := fun _ _ _ x cs => cs = rcell x ∧ x.2.length = 32
  K_len := fun {w x cs} h => by rw [h.1]; simp [rcell, idc, h.2]
  K_one := fun {w x cs} h => by rw [h.1]; exact rcell_one x
  K_below := fun _ h => h
  K_of_M := fun h => h
  M_mono := fun _ h => h
  M_bound := fun h => h
  M_move := fun _ h => h
  M_lower := fun _ h => h
abbrev UpE := ByteArray × List Int × List Int
def ucell (x : UpE) : List Value := .string x.1 :: (idc x.2.1 ++ idc x.2.2)
theorem ucell_one (x : UpE) : ∀ u ∈ ucell x, u.oneCell' = true := by
  intro u hu
  rcases List.mem_cons.mp hu with rfl | hu
  · rfl
  · rcases List.mem_append.mp hu with hu | hu
    · exact idc_one _ u hu
    · exact idc_one _ u hu
def kUp : Kd UpE where
  sz := 65
  E := []
  K := fun _ x cs => cs = ucell x ∧ x.2.1.length = 32 ∧ x.2.2.length = 32
  M := fun _ _ _ x cs => cs = ucell x ∧ x.2.1.length = 32 ∧ x.2.2.length = 32
  K_len := fun {w x cs} h => by rw [h.1]; simp [ucell, idc, h.2.1, h.2.2]
  K_one := fun {w x cs} h => by rw [h.1]; exact ucell_one x
  K_below := fun _ h => h
  K_of_M := fun h => h
  M_mono := fun _ h => h
  M_bound := fun h => h
  M_move := fun _ h => h
  M_lower := fun _ h => h
def rcells (l : List RefE) : List Value := l.flatMap rcell
def Good32 (l : List RefE) : Prop := ∀ x ∈ l, x.2.length = 32
theorem rcell_length {x : RefE} (h : x.2.length = 32) : (rcell x).length = 33 := by simp [rcell, idc, h]
theorem rcells_length (l : List RefE) (h : Good32 l) : (rcells l).length = l.length * 33 := by
  induction l with
  | nil => rfl
  | cons x l ih =>
    have h1 := rcell_length (h x (by simp))
    have h2 := ih (fun y hy => h y (by simp [hy]))
    simp only [rcells, List.flatMap_cons, List.length_append, List.length_cons] at h2 ⊢
    omega
theorem rcells_append (l m : List RefE) : rcells (l ++ m) = rcells l ++ rcells m := by simp [rcells]
theorem rcells_one (l : List RefE) : ∀ u ∈ rcells l, u.oneCell' = true := by
  intro u hu
  obtain ⟨x, _, hx⟩ := List.mem_flatMap.mp hu
  exact rcell_one x u hx
/-- The q-th cell of the j-th element. -/
theorem rcells_at (l : List RefE) (h : Good32 l) (j : Nat) (hj : j < l.length) (q : Nat) (hq : q < 33) : (rcells l)[j * 33 + q]? = (rcell l[j])[q]? := by
  induction l generalizing j with
  | nil => simp at hj
  | cons x l ih =>
    have h1 := rcell_length (h x (by simp))
    cases j with
    | zero =>
      simp only [rcells, List.flatMap_cons, Nat.zero_mul, Nat.zero_add, List.getElem_cons_zero]
      rw [List.getElem?_append_left (by omega)]
    | succ j =>
      have h2 := ih (fun y hy => h y (by simp [hy])) j (by simpa using hj)
      simp only [rcells, List.flatMap_cons, List.getElem_cons_succ] at h2 ⊢
      rw [List.getElem?_append_right (by omega), h1, ← h2]
      congr 1
      omega
theorem rcells_take (l : List RefE) (h : Good32 l) (k : Nat) : (rcells l).take (k * 33) = rcells (l.take k) := by
  induction l generalizing k with
  | nil => simp [rcells]
  | cons x l ih =>
    have h1 := rcell_length (h x (by simp))
    cases k with
    | zero => simp [rcells]
    | succ k =>
      have h2 := ih (fun y hy => h y (by simp [hy])) k
      simp only [rcells, List.flatMap_cons, List.take_succ_cons] at h2 ⊢
      rw [List.take_append, h1, List.take_of_length_le (by omega), ← h2]
      congr 2
      omega
theorem rcells_drop (l : List RefE) (h : Good32 l) (k : Nat) : (rcells l).drop (k * 33) = rcells (l.drop k) := by
  induction l generalizing k with
  | nil => simp [rcells]
  | cons x l ih =>
    have h1 := rcell_length (h x (by simp))
    cases k with
    | zero => simp [rcells]
    | succ k =>
      have h2 := ih (fun y hy => h y (by simp [hy])) k
      simp only [rcells, List.flatMap_cons, List.drop_succ_cons] at h2 ⊢
      rw [List.drop_append, h1, List.drop_of_length_le (by omega), List.nil_append, ← h2]
      congr 1
      omega
end Go.Proofs.Ytklbemgepeleoaa.Rf
