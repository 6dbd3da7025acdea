/- disk, in plain Lean: files by rising names; what the document's Set and Get come to. -/
import Derived.Test.YtaibcfghokhghaaDk9
import Derived.Test.YtaibcfghokhghaaBase
set_option linter.unusedVariables false
set_option linter.unusedSimpArgs false
namespace Go.Proofs.Ytaibcfghokhghaa.Dp
open Go.RowKit Go.Proofs.YtaibcfghokhghaaW.PrintWords Go.Proofs.YtaibcfghokhghaaW.PrintLast Go.Proofs.YtaibcfghokhghaaW.PrintMore Go.Proofs.Ytaibcfghokhghaa.PA Go.Proofs.Ytaibcfghokhghaa.Base Go.Proofs.Ytaibcfghokhghaa.Lk Go.Proofs.Ytaibcfghokhghaa.Dk

theorem cb_refl : ∀ x : List UInt8, Lib.compareBytes x x = 0
  | [] => rfl
  | c :: x => by
    simp only [Lib.compareBytes]
    rw [if_neg (by exact UInt8.lt_irrefl c), if_neg (by exact UInt8.lt_irrefl c)]
    exact cb_refl x
theorem cb_swap : ∀ x y : List UInt8, Lib.compareBytes y x = - Lib.compareBytes x y
  | [], [] => rfl
  | [], _ :: _ => rfl
  | _ :: _, [] => rfl
  | a :: x, b :: y => by
    simp only [Lib.compareBytes]
    by_cases h1 : a < b
    · have h2 : ¬ b < a := by rw [UInt8.lt_iff_toNat_lt] at *; omega
      rw [if_pos h1, if_neg h2, if_pos h1]
      decide
    · by_cases h2 : b < a
      · rw [if_pos h2, if_neg h1, if_pos h2]
      · rw [if_neg h2, if_neg h1, if_neg h1, if_neg h2]
        exact cb_swap x y
theorem cb_less : ∀ x y : List UInt8, (Op.bytesLess x y = true) ↔ Lib.compareBytes x y < 0
  | [], [] => by simp [Op.bytesLess, Lib.compareBytes]
  | [], _ :: _ => by simp [Op.bytesLess, Lib.compareBytes]
  | _ :: _, [] => by simp [Op.bytesLess, Lib.compareBytes]
  | a :: x, b :: y => by
    simp only [Op.bytesLess, Lib.compareBytes]
    have ih := cb_less x y
    by_cases h1 : a < b
    · simp [h1]
    · by_cases h2 : b < a
      · have h3 : ¬ a = b := by rintro rfl; exact h1 h2
        simp [h1, h2, h3]
      · have h3 : a = b := by
          have : a.toNat = b.toNat := by rw [UInt8.lt_iff_toNat_lt] at *; omega
          exact UInt8.toNat_inj.mp this
        subst h3
        simp [h1, ih]
theorem cb_trans : ∀ x y z : List UInt8, Lib.compareBytes x y < 0 → Lib.compareBytes y z < 0 → Lib.compareBytes x z < 0
  | [], [], _ => by simp [Lib.compareBytes]
  | [], _ :: _, [] => by simp [Lib.compareBytes]
  | [], _ :: _, _ :: _ => by simp [Lib.compareBytes]
  | _ :: _, [], _ => by simp [Lib.compareBytes]
  | _ :: _, _ :: _, [] => by simp [Lib.compareBytes]
  | a :: x, b :: y, c :: z => by
    have ih := cb_trans x y z
    simp only [Lib.compareBytes, UInt8.lt_iff_toNat_lt]
    by_cases h1 : a.toNat < b.toNat <;> by_cases h2 : b.toNat < a.toNat <;> by_cases h3 : b.toNat < c.toNat <;> by_cases h4 : c.toNat < b.toNat <;> by_cases h5 : a.toNat < c.toNat <;> by_cases h6 : c.toNat < a.toNat <;> first | omega | (simp only [h1, h2, h3, h4, h5, h6, if_true, if_false]; first | exact ih | (intros; omega))
theorem c_refl (a : ByteArray) : cmpN a a = 0 := cb_refl _
theorem c_swap (a b : ByteArray) : cmpN b a = - cmpN a b := cb_swap _ _
theorem c_trans {a b c : ByteArray} (h1 : cmpN a b < 0) (h2 : cmpN b c < 0) : cmpN a c < 0 := cb_trans _ _ _ h1 h2
theorem c_ne {a b : ByteArray} (h : cmpN a b ≠ 0) : a ≠ b := by rintro rfl; exact h (c_refl a)
theorem c_less (a b : ByteArray) : Op.bytesLess a.toList b.toList = decide (cmpN a b < 0) := by
  rw [ByteArray.toList_eq, ByteArray.toList_eq]
  have := cb_less a.data.toList b.data.toList
  by_cases c : cmpN a b < 0
  · rw [decide_eq_true c]
    exact this.mpr c
  · rw [decide_eq_false c]
    exact Bool.eq_false_iff.mpr (fun h => c (this.mp h))
theorem tl_inj (a b : ByteArray) : a.toList = b.toList ↔ a = b := by
  rw [ByteArray.toList_eq, ByteArray.toList_eq]
  refine ⟨fun h => ?_, fun h => by rw [h]⟩
  cases a; cases b
  simp only [ByteArray.mk.injEq]
  exact Array.toList_inj.mp h

/-! ### files by rising names -/
def Rise (l : List File) : Prop := l.Pairwise (fun x y => cmpN x.1 y.1 < 0)
/-- The document's Set: is the file yet to be put in? -/
def putS : List File → ByteArray → ByteArray → Bool → List File
  | [], n, d, done => if done = true then [] else [(n, d)]
  | x :: l, n, d, done =>
    if done = false ∧ ¬ cmpN x.1 n < 0 then (n, d) :: (if x.1 = n then [] else [x]) ++ putS l n d true
    else (if x.1 = n then [] else [x]) ++ putS l n d done
def getS : List File → ByteArray → ByteArray × Bool
  | [], _ => (⟨#[]⟩, false)
  | x :: l, n => if x.1 = n then (x.2, true) else getS l n
theorem lb_cons_lt {x : File} {l : List File} {n : ByteArray} (h : cmpN x.1 n < 0) : lbN (x :: l) n = lbN l n + 1 := by simp [lbN, List.takeWhile_cons, h]
theorem lb_cons_ge {x : File} {l : List File} {n : ByteArray} (h : ¬ cmpN x.1 n < 0) : lbN (x :: l) n = 0 := by simp [lbN, List.takeWhile_cons, h]
theorem isAt_cons (x : File) (l : List File) (n : ByteArray) (p : Nat) : isAt (x :: l) n (p + 1) = isAt l n p := rfl
theorem isAt_zero (x : File) (l : List File) (n : ByteArray) : isAt (x :: l) n 0 = decide (cmpN x.1 n = 0) := rfl
theorem setL_cons (x : File) (l : List File) (n d : ByteArray) (p : Nat) : setL (x :: l) n d (p + 1) = x :: setL l n d p := by
  unfold setL
  rw [isAt_cons]
  by_cases h : isAt l n p = true
  · rw [if_pos h, if_pos h]; rfl
  · rw [if_neg h, if_neg h]; rfl
theorem goneL_cons (x : File) (l : List File) (n : ByteArray) (p : Nat) : goneL (x :: l) n (p + 1) = x :: goneL l n p := by
  unfold goneL
  rw [isAt_cons]
  by_cases h : isAt l n p = true
  · rw [if_pos h, if_pos h]; rfl
  · rw [if_neg h, if_neg h]
theorem putS_far (l : List File) (n d : ByteArray) (h : ∀ y ∈ l, y.1 ≠ n) : putS l n d true = l := by
  induction l with
  | nil => rfl
  | cons x l ih =>
    unfold putS
    rw [if_neg (by simp), if_neg (h x (by simp)), ih (fun y hy => h y (by simp [hy]))]
    rfl
theorem getS_far (l : List File) (n : ByteArray) (h : ∀ y ∈ l, y.1 ≠ n) : getS l n = (⟨#[]⟩, false) := by
  induction l with
  | nil => rfl
  | cons x l ih =>
    unfold getS
    rw [if_neg (h x (by simp)), ih (fun y hy => h y (by simp [hy]))]
theorem rest_far {x : File} {l : List File} {n : ByteArray} (hr : Rise (x :: l)) (h : ¬ cmpN x.1 n < 0) : ∀ y ∈ l, y.1 ≠ n := by
  intro y hy e
  have h1 := (List.pairwise_cons.mp hr).1 y hy
  rw [e] at h1
  exact h h1
theorem putS_set (l : List File) (n d : ByteArray) (hr : Rise l) : putS l n d false = setL l n d (lbN l n) := by
  induction l with
  | nil => rfl
  | cons x l ih =>
    have hr2 : Rise l := (List.pairwise_cons.mp hr).2
    unfold putS
    by_cases h : cmpN x.1 n < 0
    · rw [if_neg (by simp [h]), lb_cons_lt h, setL_cons, if_neg (c_ne (by omega)), ih hr2]
      rfl
    · rw [if_pos ⟨rfl, h⟩, lb_cons_ge h, putS_far l n d (rest_far hr h)]
      unfold setL
      rw [isAt_zero]
      by_cases h0 : cmpN x.1 n = 0
      · rw [if_pos (cmpN_zero h0), if_pos (decide_eq_true h0)]
        rfl
      · rw [if_neg (c_ne h0), if_neg (by simp [h0])]
        rfl
theorem putS_gone (l : List File) (n d : ByteArray) (hr : Rise l) : putS l n d true = goneL l n (lbN l n) := by
  induction l with
  | nil => rfl
  | cons x l ih =>
    have hr2 : Rise l := (List.pairwise_cons.mp hr).2
    unfold putS
    rw [if_neg (by simp)]
    by_cases h : cmpN x.1 n < 0
    · rw [lb_cons_lt h, goneL_cons, if_neg (c_ne (by omega)), ih hr2]
      rfl
    · rw [lb_cons_ge h, putS_far l n d (rest_far hr h)]
      unfold goneL
      rw [isAt_zero]
      by_cases h0 : cmpN x.1 n = 0
      · rw [if_pos (cmpN_zero h0), if_pos (decide_eq_true h0)]
        rfl
      · rw [if_neg (c_ne h0), if_neg (by simp [h0])]
        rfl
theorem getS_at (l : List File) (n : ByteArray) (hr : Rise l) : getS l n = if isAt l n (lbN l n) = true then ((l.getD (lbN l n) (⟨#[]⟩, ⟨#[]⟩)).2, true) else (⟨#[]⟩, false) := by
  induction l with
  | nil => rfl
  | cons x l ih =>
    have hr2 : Rise l := (List.pairwise_cons.mp hr).2
    unfold getS
    by_cases h : cmpN x.1 n < 0
    · rw [lb_cons_lt h, isAt_cons, if_neg (c_ne (by omega)), ih hr2]
      rfl
    · rw [lb_cons_ge h, getS_far l n (rest_far hr h), isAt_zero]
      by_cases h0 : cmpN x.1 n = 0
      · rw [if_pos (cmpN_zero h0), if_pos (decide_eq_true h0)]
        rfl
      · rw [if_neg (c_ne h0), if_neg (by simp [h0])]
theorem putS_mem (l : List File) (n d : ByteArray) (b : Bool) : ∀ y ∈ putS l n d b, y.1 = n ∨ y ∈ l := by
  induction l generalizing b with
  | nil =>
    intro y hy
    unfold putS at hy
    cases b with
    | true => simp at hy
    | false => simp at hy; exact .inl (by rw [hy])
  | cons x l ih =>
    intro y hy
    unfold putS at hy
    split at hy
    · rw [List.cons_append] at hy
      rcases List.mem_cons.mp hy with e | hy
      · exact .inl (by rw [e])
      · rcases List.mem_append.mp hy with hy | hy
        · split at hy
          · simp at hy
          · exact .inr (by simp at hy; simp [hy])
        · exact (ih _ y hy).elim .inl (fun e => .inr (by simp [e]))
    · rcases List.mem_append.mp hy with hy | hy
      · split at hy
        · simp at hy
        · exact .inr (by simp at hy; simp [hy])
      · exact (ih _ y hy).elim .inl (fun e => .inr (by simp [e]))
theorem putS_rise (l : List File) (n d : ByteArray) (b : Bool) (hr : Rise l) : Rise (putS l n d b) := by
  induction l generalizing b with
  | nil =>
    unfold putS
    cases b with
    | true => exact List.Pairwise.nil
    | false => exact List.pairwise_singleton _ _
  | cons x l ih =>
    obtain ⟨h1, hr2⟩ := List.pairwise_cons.mp hr
    unfold putS
    by_cases hc : b = false ∧ ¬ cmpN x.1 n < 0
    · rw [if_pos hc, putS_far l n d (rest_far hr hc.2)]
      by_cases h0 : cmpN x.1 n = 0
      · rw [if_pos (cmpN_zero h0)]
        refine List.pairwise_cons.mpr ⟨fun y hy => ?_, hr2⟩
        have := h1 y hy
        rw [cmpN_zero h0] at this
        exact this
      · rw [if_neg (c_ne h0)]
        have hx : cmpN n x.1 < 0 := by rw [c_swap x.1 n]; omega
        refine List.pairwise_cons.mpr ⟨fun y hy => ?_, hr⟩
        rcases List.mem_cons.mp hy with e | hy
        · rw [e]; exact hx
        · exact c_trans hx (h1 y hy)
    · rw [if_neg hc]
      by_cases hn : x.1 = n
      · rw [if_pos hn]
        exact ih b hr2
      · rw [if_neg hn]
        refine List.pairwise_cons.mpr ⟨fun y hy => ?_, ih b hr2⟩
        by_cases hb : b = false
        · have hx : cmpN x.1 n < 0 := Decidable.byContradiction fun e => hc ⟨hb, e⟩
          rcases putS_mem l n d b y hy with e | e
          · rw [e]; exact hx
          · exact h1 y e
        · have hb2 : b = true := by cases b <;> simp_all
          subst hb2
          by_cases hx : cmpN x.1 n < 0
          · rcases putS_mem l n d true y hy with e | e
            · rw [e]; exact hx
            · exact h1 y e
          · rw [putS_far l n d (rest_far hr hx)] at hy
            exact h1 y hy
theorem putS_length (l : List File) (n d : ByteArray) (b : Bool) : (putS l n d b).length ≤ l.length + 1 ∧ (b = true → (putS l n d b).length ≤ l.length) := by
  induction l generalizing b with
  | nil => unfold putS; cases b <;> simp
  | cons x l ih =>
    unfold putS
    have i1 := ih true
    have i2 := ih b
    by_cases hc : b = false ∧ ¬ cmpN x.1 n < 0
    · rw [if_pos hc]
      have := i1.2 rfl
      obtain ⟨rfl, _⟩ := hc
      by_cases hn : x.1 = n
      · rw [if_pos hn]
        simp only [List.length_append, List.length_cons, List.length_nil]
        exact ⟨by omega, fun e => by simp at e⟩
      · rw [if_neg hn]
        simp only [List.length_append, List.length_cons, List.length_nil]
        exact ⟨by omega, fun e => by simp at e⟩
    · rw [if_neg hc]
      by_cases hn : x.1 = n
      · rw [if_pos hn]
        simp only [List.length_append, List.length_cons, List.length_nil]
        exact ⟨by omega, fun e => by have := i2.2 e; omega⟩
      · rw [if_neg hn]
        simp only [List.length_append, List.length_cons, List.length_nil]
        exact ⟨by omega, fun e => by have := i2.2 e; omega⟩
theorem lower_of (l : List File) (n : ByteArray) (hr : Rise l) : Lower l n (lbN l n) := by
  induction l with
  | nil => exact ⟨Nat.zero_le _, fun j h => by simp at h⟩
  | cons x l ih =>
    obtain ⟨h1, hr2⟩ := List.pairwise_cons.mp hr
    obtain ⟨ha, hb⟩ := ih hr2
    by_cases h : cmpN x.1 n < 0
    · rw [lb_cons_lt h]
      refine ⟨by simp; exact ha, fun j hj => ?_⟩
      cases j with
      | zero => simp [h]
      | succ j =>
        have := hb j (by simpa using hj)
        simp only [List.getElem_cons_succ]
        rw [this]
        omega
    · rw [lb_cons_ge h]
      refine ⟨Nat.zero_le _, fun j hj => ?_⟩
      refine ⟨fun hlt => ?_, fun e => by omega⟩
      cases j with
      | zero => exact absurd hlt h
      | succ j =>
        simp only [List.getElem_cons_succ] at hlt
        have := h1 (l[j]'(by simpa using hj)) (List.getElem_mem _)
        exact absurd (c_trans this hlt) h
theorem low_own (l : List File) (hr : Rise l) : ∀ i, (h : i < l.length) → Lower l l[i].1 i := by
  intro i h
  have hp := List.pairwise_iff_getElem.mp hr
  refine ⟨by omega, fun j hj => ⟨fun hlt => ?_, fun hlt => hp j i hj h hlt⟩⟩
  by_cases e : j < i
  · exact e
  · by_cases e2 : j = i
    · subst e2
      rw [c_refl] at hlt
      omega
    · have := hp i j h hj (by omega)
      rw [c_swap] at hlt
      omega
end Go.Proofs.Ytaibcfghokhghaa.Dp
