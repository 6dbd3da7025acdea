/- Refs in plain Lean: put and the document's Set are one where names rise; what updates come to. -/
import Derived.Test.YtklbemgepeleoaaRf20
set_option linter.unusedVariables false
set_option linter.unusedSimpArgs false
namespace Go.Proofs.Ytklbemgepeleoaa.Rf
open Go.RowKit
/-- Names rise. -/
def Srt (l : List RefE) : Prop := l.Pairwise (fun a b => ltB a.1 b.1 = true)
theorem Srt.tail {y : RefE} {l : List RefE} (h : Srt (y :: l)) : Srt l := (List.pairwise_cons.mp h).2
theorem Srt.head {y : RefE} {l : List RefE} (h : Srt (y :: l)) : ∀ z ∈ l, ltB y.1 z.1 = true := (List.pairwise_cons.mp h).1
theorem srt_of_fine {l : List RefE} (h : Fine l) : Srt l := by
  have key : ∀ d i j : Nat, i + d + 1 = j → (hi : i < l.length) → (hj : j < l.length) → ltB l[i].1 l[j].1 = true := by
    intro d
    induction d with
    | zero => intro i j hij hi hj; exact (h.2 j hj hj).2.2 i (by omega)
    | succ d ih =>
      intro i j hij hi hj
      have h1 := ih i (j - 1) (by omega) hi (by omega)
      have h2 := (h.2 j hj hj).2.2 (j - 1) (by omega)
      exact lt_trans h1 h2
  exact List.pairwise_iff_getElem.mpr fun i j hi hj hij => key (j - i - 1) i j (by omega) hi hj
/-- A name put in its place. -/
def insR (nm : ByteArray) (x : List Int) : List RefE → List RefE
  | [] => if x = id0 then [] else [(nm, x)]
  | y :: l => if ltB y.1 nm = true then y :: insR nm x l else if eqB y.1 nm = true then (if x = id0 then l else (nm, x) :: l) else (if x = id0 then y :: l else (nm, x) :: y :: l)
theorem insR_lt {nm : ByteArray} {x : List Int} {y : RefE} {l : List RefE} (h : ltB y.1 nm = true) : insR nm x (y :: l) = y :: insR nm x l := by
  simp only [insR, h, if_true]
theorem insR_eq {nm : ByteArray} {x : List Int} {y : RefE} {l : List RefE} (h : ltB y.1 nm = false) (g : eqB y.1 nm = true) : insR nm x (y :: l) = if x = id0 then l else (nm, x) :: l := by
  simp only [insR, h, g, Bool.false_eq_true, if_false, if_true]
theorem insR_gt {nm : ByteArray} {x : List Int} {y : RefE} {l : List RefE} (h : ltB y.1 nm = false) (g : eqB y.1 nm = false) : insR nm x (y :: l) = if x = id0 then y :: l else (nm, x) :: y :: l := by
  simp only [insR, h, g, Bool.false_eq_true, if_false]
theorem eqB_lt {a b : ByteArray} (h : ltB a b = true) : eqB a b = false := by
  cases he : eqB a b with
  | false => rfl
  | true => exact absurd ((eqB_iff _ _).mp he) (lt_ne h)
theorem eqB_gt {a b : ByteArray} (h : ltB a b = true) : eqB b a = false := by rw [eqB_comm]; exact eqB_lt h
theorem sansE_all {l : List RefE} {nm : ByteArray} (h : ∀ z ∈ l, ltB nm z.1 = true) : sansE l nm = l := List.filter_eq_self.mpr fun z hz => by rw [eqB_gt (h z hz)]; rfl
theorem insE_zero {l : List RefE} {nm : ByteArray} (h : ∀ z ∈ l, ltB nm z.1 = true) : insE l nm = 0 := by
  cases l with
  | nil => rfl
  | cons y l =>
    unfold insE
    rw [List.findIdx_cons, lt_asymm (h y (by simp))]
    rfl
/-- Behind a name that is not ahead all are behind. -/
theorem Srt.rest {y : RefE} {l : List RefE} {nm : ByteArray} (h : Srt (y :: l)) (hy : ltB y.1 nm = false) : ∀ z ∈ l, ltB nm z.1 = true := fun z hz => by
  by_cases he : y.1 = nm
  · rw [← he]; exact h.head z hz
  · cases hg : ltB nm y.1 with
    | true => exact lt_trans hg (h.head z hz)
    | false => exact absurd (lt_tri hy hg) he
theorem putE_ins {l : List RefE} (nm : ByteArray) (x : List Int) (h : Srt l) : putE l nm x = insR nm x l := by
  unfold putE
  induction l with
  | nil => by_cases hx : x = id0 <;> simp [sansE, insR, insE, hx]
  | cons y l ih =>
    have ih' := ih h.tail
    cases hlt : ltB y.1 nm with
    | true =>
      have hs : sansE (y :: l) nm = y :: sansE l nm := by unfold sansE; rw [List.filter_cons, eqB_lt hlt]; rfl
      have hi : insE (y :: sansE l nm) nm = insE (sansE l nm) nm + 1 := by unfold insE; rw [List.findIdx_cons, hlt]; rfl
      rw [hs, insR_lt hlt, ← ih']
      by_cases hx : x = id0
      · rw [if_pos hx, if_pos hx]
      · rw [if_neg hx, if_neg hx, hi]
        rfl
    | false =>
      have hr := h.rest hlt
      cases he : eqB y.1 nm with
      | true =>
        rw [insR_eq hlt he]
        have hs : sansE (y :: l) nm = l := by
          have : sansE (y :: l) nm = sansE l nm := by unfold sansE; rw [List.filter_cons, he]; rfl
          rw [this, sansE_all hr]
        rw [hs, insE_zero hr]
        by_cases hx : x = id0 <;> simp [hx]
      | false =>
        have hyg : ltB nm y.1 = true := by
          cases hg : ltB nm y.1 with
          | true => rfl
          | false =>
            have := lt_tri hlt hg
            rw [(eqB_iff _ _).mpr this] at he
            cases he
        have hall : ∀ z ∈ y :: l, ltB nm z.1 = true := fun z hz => by
          rcases List.mem_cons.mp hz with rfl | hz
          · exact hyg
          · exact hr z hz
        rw [insR_gt hlt he, sansE_all hall, insE_zero hall]
        by_cases hx : x = id0 <;> simp [hx]
theorem fold_done (nm : ByteArray) (x : List Int) (l : List RefE) : ∀ acc : List RefE, l.foldl (setF nm x) (acc, true) = (acc ++ sansE l nm, true) := by
  induction l with
  | nil => intro acc; simp [sansE]
  | cons y l ih =>
    intro acc
    rw [List.foldl_cons, setF_skip (.inl rfl)]
    cases he : eqB y.1 nm with
    | true =>
      have hs : sansE (y :: l) nm = sansE l nm := by unfold sansE; rw [List.filter_cons, he]; rfl
      simp only [if_true]
      rw [ih, hs]
    | false =>
      have hs : sansE (y :: l) nm = y :: sansE l nm := by unfold sansE; rw [List.filter_cons, he]; rfl
      simp only [Bool.false_eq_true, if_false]
      rw [ih, hs]
      simp
def finS (nm : ByteArray) (x : List Int) (s : List RefE × Bool) : List RefE := if s.2 = true then s.1 else s.1 ++ [(nm, x)]
theorem fold_not (nm : ByteArray) (x : List Int) (hx : x ≠ id0) (l : List RefE) (h : Srt l) : ∀ acc : List RefE, finS nm x (l.foldl (setF nm x) (acc, false)) = acc ++ insR nm x l := by
  induction l with
  | nil => intro acc; simp [finS, insR, hx]
  | cons y l ih =>
    intro acc
    rw [List.foldl_cons]
    cases hlt : ltB y.1 nm with
    | true =>
      rw [setF_skip (.inr hlt), eqB_lt hlt, insR_lt hlt]
      simp only [Bool.false_eq_true, if_false]
      rw [ih h.tail]
      simp
    | false =>
      have hr := h.rest hlt
      rw [setF_put rfl hlt, fold_done]
      cases he : eqB y.1 nm with
      | true => rw [insR_eq hlt he]; simp [finS, hx, sansE_all hr]
      | false => rw [insR_gt hlt he]; simp [finS, hx, sansE_all hr]
theorem setE_ins {l : List RefE} (nm : ByteArray) (x : List Int) (h : Srt l) : setE l nm x = insR nm x l := by
  have e : setE l nm x = finS nm x (l.foldl (setF nm x) ([], decide (x = id0))) := by
    unfold setE setS finS
    rw [List.take_length]
  rw [e]
  by_cases hx : x = id0
  · rw [decide_eq_true hx, fold_done, ← putE_ins nm x h]
    simp [finS, putE, hx]
  · rw [decide_eq_false hx, fold_not nm x hx l h]
    rfl
theorem insR_mem {nm : ByteArray} {x : List Int} {l : List RefE} {z : RefE} (h : z ∈ insR nm x l) : z ∈ l ∨ (z = (nm, x) ∧ x ≠ id0) := by
  induction l with
  | nil =>
    unfold insR at h
    split at h
    · simp at h
    · rename_i hx
      exact .inr ⟨List.mem_singleton.mp h, hx⟩
  | cons y l ih =>
    unfold insR at h
    split at h
    · rcases List.mem_cons.mp h with rfl | h
      · exact .inl (by simp)
      · rcases ih h with h | h
        · exact .inl (List.mem_cons_of_mem _ h)
        · exact .inr h
    · split at h
      · split at h
        · exact .inl (List.mem_cons_of_mem _ h)
        · rename_i hx
          rcases List.mem_cons.mp h with h | h
          · exact .inr ⟨h, hx⟩
          · exact .inl (List.mem_cons_of_mem _ h)
      · split at h
        · exact .inl h
        · rename_i hx
          rcases List.mem_cons.mp h with h | h
          · exact .inr ⟨h, hx⟩
          · exact .inl h
theorem Srt.ins {l : List RefE} (nm : ByteArray) (x : List Int) (h : Srt l) : Srt (insR nm x l) := by
  induction l with
  | nil =>
    unfold insR
    split
    · exact List.Pairwise.nil
    · exact List.pairwise_cons.mpr ⟨fun _ hz => absurd hz (by simp), List.Pairwise.nil⟩
  | cons y l ih =>
    unfold insR
    split
    · rename_i hlt
      refine List.pairwise_cons.mpr ⟨fun z hz => ?_, ih h.tail⟩
      rcases insR_mem hz with hz | ⟨rfl, _⟩
      · exact h.head z hz
      · exact hlt
    · rename_i hlt
      have hlt' : ltB y.1 nm = false := by cases hh : ltB y.1 nm <;> simp_all
      have hr := h.rest hlt'
      split
      · split
        · exact h.tail
        · exact List.pairwise_cons.mpr ⟨hr, h.tail⟩
      · rename_i he
        split
        · exact h
        · refine List.pairwise_cons.mpr ⟨fun z hz => ?_, h⟩
          rcases List.mem_cons.mp hz with rfl | hz
          · cases hg : ltB nm z.1 with
            | true => rfl
            | false => exact absurd ((eqB_iff _ _).mpr (lt_tri hlt' hg)) he
          · exact hr z hz
theorem errE_wrong {l : List RefE} (pre : List UpE) (x : UpE) (h : Srt l) : errE l pre x = wrongE l pre x := by
  unfold errE wrongE
  rw [putE_ins _ _ h, setE_ins _ _ h]
theorem run_same (us : List UpE) (l : List RefE) (h : Srt l) : ∀ i, runE us l i = drunE us l i ∧ Srt (runE us l i).1 := by
  intro i
  induction i with
  | zero => exact ⟨rfl, h⟩
  | succ i ih =>
    obtain ⟨h1, h2⟩ := ih
    unfold runE drunE
    rw [← h1]
    cases us[i]? with
    | none => exact ⟨rfl, h2⟩
    | some x =>
      simp only []
      rw [errE_wrong _ _ h2, putE_ins _ _ h2, setE_ins _ _ h2]
      refine ⟨rfl, ?_⟩
      split
      · exact h2.ins _ _
      · exact h2
theorem upd_same (us : List UpE) (l : List RefE) (all : Bool) (h : Fine l) : updE us l all = dupdE us l all := by
  unfold updE dupdE
  rw [(run_same us l (srt_of_fine h) us.length).1]
end Go.Proofs.Ytklbemgepeleoaa.Rf
