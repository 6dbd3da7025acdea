/- The order of names. -/
import Derived.Test.YtklbemgepeleoaaRf0
import Derived.Lib.Strings
set_option linter.unusedVariables false
set_option linter.unusedSimpArgs false
namespace Go.Proofs.Ytklbemgepeleoaa.Rf
open Go.RowKit
theorem bl_irrefl : ∀ x : List UInt8, Op.bytesLess x x = false
  | [] => rfl
  | a :: x => by rw [Op.bytesLess, bl_irrefl x]; simp
theorem bl_trans : ∀ x y z : List UInt8, Op.bytesLess x y = true → Op.bytesLess y z = true → Op.bytesLess x z = true
  | _, _, [] => fun _ h => by cases ‹List UInt8› <;> simp [Op.bytesLess] at h
  | [], _, _ :: _ => fun _ _ => rfl
  | _ :: _, [], _ => fun h _ => by simp [Op.bytesLess] at h
  | a :: x, b :: y, c :: z => fun h g => by
    simp only [Op.bytesLess, Bool.or_eq_true, decide_eq_true_eq, Bool.and_eq_true, beq_iff_eq] at h g ⊢
    rcases h with h | ⟨rfl, h⟩
    · rcases g with g | ⟨rfl, g⟩
      · exact .inl (UInt8.lt_trans h g)
      · exact .inl h
    · rcases g with g | ⟨rfl, g⟩
      · exact .inl g
      · exact .inr ⟨rfl, bl_trans x y z h g⟩
theorem bl_tri : ∀ x y : List UInt8, Op.bytesLess x y = false → Op.bytesLess y x = false → x = y
  | [], [] => fun _ _ => rfl
  | _ :: _, [] => fun _ h => by simp [Op.bytesLess] at h
  | [], _ :: _ => fun h _ => by simp [Op.bytesLess] at h
  | a :: x, b :: y => fun h g => by
    simp only [Op.bytesLess, Bool.or_eq_false_iff, decide_eq_false_iff_not, Bool.and_eq_false_iff, beq_eq_false_iff_ne] at h g
    have e : a = b := by
      have h1 := h.1
      have g1 := g.1
      rw [UInt8.lt_iff_toNat_lt] at h1 g1
      exact UInt8.toNat_inj.mp (by omega)
    subst e
    have h2 := h.2.resolve_left (by simp)
    have g2 := g.2.resolve_left (by simp)
    rw [bl_tri x y h2 g2]
/-- One name is ahead of another. -/
def ltB (a b : ByteArray) : Bool := Op.bytesLess a.toList b.toList
theorem toList_inj {a b : ByteArray} (h : a.toList = b.toList) : a = b := by
  have e : ∀ x : ByteArray, x.toList = x.data.toList := fun x => ByteArray.toList_eq x
  rw [e, e] at h
  cases a; cases b
  simpa using h
theorem lt_irrefl (a : ByteArray) : ltB a a = false := bl_irrefl _
theorem lt_trans {a b c : ByteArray} (h : ltB a b = true) (g : ltB b c = true) : ltB a c = true := bl_trans _ _ _ h g
theorem lt_tri {a b : ByteArray} (h : ltB a b = false) (g : ltB b a = false) : a = b := toList_inj (bl_tri _ _ h g)
theorem lt_asymm {a b : ByteArray} (h : ltB a b = true) : ltB b a = false := by
  cases hb : ltB b a with
  | false => rfl
  | true => rw [← lt_irrefl a, lt_trans h hb]
theorem lt_ne {a b : ByteArray} (h : ltB a b = true) : a ≠ b := by
  rintro rfl
  rw [lt_irrefl] at h
  cases h
theorem ge_iff (a b : ByteArray) : (Op.bytesLess a.toList b.toList || a.toList == b.toList) = !ltB b a := by
  cases h : ltB b a with
  | true =>
    rw [show Op.bytesLess a.toList b.toList = false from lt_asymm h]
    have : a.toList ≠ b.toList := fun e => lt_ne h (toList_inj e).symm
    simp [this]
  | false =>
    cases g : Op.bytesLess a.toList b.toList with
    | true => rfl
    | false =>
      have : a.toList = b.toList := bl_tri _ _ g h
      simp [this]
end Go.Proofs.Ytklbemgepeleoaa.Rf
