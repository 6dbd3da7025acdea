/- Plain lemmas on bytes as lists, on rounds and on wraps: no Go, no memory. -/
import Derived.Test.YtklbemgepeleoaaWMore
import Derived.Lib.Strings
import Derived.Laws.BitsAllLaws
namespace Go.Proofs.Ytklbemgepeleoaa.Base
open Go.RowKit Go.Proofs.YtklbemgepeleoaaW.PrintWords Go.Proofs.YtklbemgepeleoaaW.PrintLast Go.Proofs.YtklbemgepeleoaaW.PrintMore

/-! ### bytes as lists -/
def mkB (l : List UInt8) : ByteArray := ⟨l.toArray⟩
theorem exB (s : ByteArray) : ∃ l, s = mkB l := ⟨s.data.toList, by cases s; simp [mkB]⟩
theorem mkB_data (l : List UInt8) : (mkB l).data.toList = l := rfl
theorem mkB_inj {a b : List UInt8} (h : mkB a = mkB b) : a = b := by
  have := congrArg (fun s : ByteArray => s.data.toList) h
  simpa [mkB] using this
theorem mkB_size (l : List UInt8) : (mkB l).size = l.length := by simp [mkB, ByteArray.size]
theorem mkB_toList (l : List UInt8) : (mkB l).toList = l := by rw [ByteArray.toList_eq]; rfl
theorem mkB_append (a b : List UInt8) : mkB a ++ mkB b = mkB (a ++ b) := by
  apply ByteArray.ext
  rw [ByteArray.data_append]
  simp [mkB]
theorem mkB_nil : (⟨#[]⟩ : ByteArray) = mkB [] := rfl
theorem mkB_extract (l : List UInt8) (a b : Nat) : (mkB l).extract a b = mkB ((l.drop a).take (b - a)) := by
  rw [Lib.extract_eq]; rfl
theorem mkB_take (l : List UInt8) (b : Nat) : (mkB l).extract 0 b = mkB (l.take b) := by
  rw [mkB_extract]; simp
theorem mkB_drop (l : List UInt8) (a : Nat) : (mkB l).extract a (mkB l).size = mkB (l.drop a) := by
  rw [mkB_extract, mkB_size]
  congr 1
  apply List.take_of_length_le
  simp
theorem mkB_bt (l : List UInt8) (i : Nat) (h : i < l.length) : bt (mkB l) (i : Int) = (l[i].toNat : Int) := by
  unfold bt
  rw [dif_pos (by rw [mkB_size]; simpa using h)]
  rfl
theorem strOfNums_mkB (xs : List Int) : strOfNums xs = mkB (xs.map fun n => UInt8.ofNat n.toNat) := rfl

/-! ### wraps -/
theorem w64 {x : Int} (h0 : -9223372036854775808 ≤ x) (h1 : x ≤ 9223372036854775807) : wrap64 x = x := by
  unfold wrap64; omega
theorem wu64 {x : Int} (h0 : 0 ≤ x) (h1 : x < 18446744073709551616) : IntKind.u64.wrap x = x := by
  have : IntKind.u64.wrap x = x % 18446744073709551616 := by simp [IntKind.wrap, IntKind.bits, IntKind.signed]
  rw [this]; omega
theorem wu64_mod (x : Int) : IntKind.u64.wrap x = x % 18446744073709551616 := by simp [IntKind.wrap, IntKind.bits, IntKind.signed]

/-! ### rounds -/
theorem Ev.ite_pos {α : Type} {c : Prop} [Decidable c] {g f : Nat → Option α} {r : α} (h : c) (k : Ev g r) : Ev (fun n => if c then g n else f n) r := by
  simpa [h] using k
theorem Ev.ite_neg {α : Type} {c : Prop} [Decidable c] {g f : Nat → Option α} {r : α} (h : ¬ c) (k : Ev f r) : Ev (fun n => if c then g n else f n) r := by
  simpa [h] using k
theorem Ev.bind' {α β : Type} {g : Nat → Option α} {f : Nat → α → Option β} {a : α} {r : β} (h : Ev g a) (k : Ev (fun n => f n a) r) : Ev (fun n => (g n).bind (f n)) r := Ev.bind h k
theorem Ev.pure_bind {α β : Type} {a : α} {f : Nat → α → Option β} {r : β} (k : Ev (fun n => f n a) r) : Ev (fun n => (some a : Option α).bind (f n)) r := k

theorem Ev.eq {α : Type} {g : Nat → Option α} {a b : α} (h : a = b) (k : Ev g a) : Ev g b := h ▸ k
theorem tmod_nat (n : Nat) (m : Nat) : Int.tmod (n : Int) (m : Int) = ((n % m : Nat) : Int) := by rw [Int.tmod_eq_emod_of_nonneg (by omega)]; simp
theorem tdiv_nat (n : Nat) (m : Nat) : Int.tdiv (n : Int) (m : Int) = ((n / m : Nat) : Int) := by rw [Int.tdiv_eq_ediv_of_nonneg (by omega)]; simp
theorem ofNat_toNat (n : Nat) (h : n < 256) : (UInt8.ofNat n).toNat = n := by
  rw [UInt8.toNat_ofNat']; omega
theorem mkB_nums (ns : List Nat) : strOfNums (ns.map fun (n : Nat) => (n : Int)) = mkB (ns.map UInt8.ofNat) := by
  rw [strOfNums_mkB]; simp [Function.comp_def]
end Go.Proofs.Ytklbemgepeleoaa.Base
