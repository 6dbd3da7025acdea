/- CRC-32 as a fold over 32 bits; what the program's Sum, Seal and Open come to; another byte, another sum. -/
import Derived.Test.YtnmnplbjhejejaaBase
import Derived.Test.YtnmnplbjhejejaaPAx1
set_option linter.unusedVariables false
namespace Go.Proofs.Ytnmnplbjhejejaa.Cr
open Go.RowKit Go.Proofs.YtnmnplbjhejejaaW.PrintWords Go.Proofs.YtnmnplbjhejejaaW.PrintLast Go.Proofs.YtnmnplbjhejejaaW.PrintMore Go.Proofs.Ytnmnplbjhejejaa.PA Go.Proofs.Ytnmnplbjhejejaa.Base

def poly : BitVec 32 := 3988292384#32
def T (c : BitVec 32) : BitVec 32 := (c >>> 1) ^^^ (if c.getLsbD 0 then poly else 0#32)
def Tn : Nat → BitVec 32 → BitVec 32
  | 0, c => c
  | n + 1, c => Tn n (T c)
def up (c : BitVec 32) (b : UInt8) : BitVec 32 := Tn 8 (c ^^^ BitVec.ofNat 32 b.toNat)
def run (c : BitVec 32) (l : List UInt8) : BitVec 32 := l.foldl up c
def crc (l : List UInt8) : BitVec 32 := BitVec.allOnes 32 ^^^ run (BitVec.allOnes 32) l

theorem T_top (c : BitVec 32) : (T c).getLsbD 31 = c.getLsbD 0 := by
  unfold T
  rw [BitVec.getLsbD_xor, BitVec.getLsbD_ushiftRight, BitVec.getLsbD_of_ge c (1 + 31) (by decide)]
  cases h : c.getLsbD 0 with
  | true => rw [if_pos rfl]; decide
  | false => rw [if_neg (by decide)]; decide
theorem T_inj {a b : BitVec 32} (h : T a = T b) : a = b := by
  have h0 : a.getLsbD 0 = b.getLsbD 0 := by rw [← T_top a, ← T_top b, h]
  have h1 : a >>> 1 = b >>> 1 := by
    unfold T at h
    rw [h0] at h
    have := congrArg (fun c => c ^^^ (if b.getLsbD 0 then poly else 0#32)) h
    simpa [BitVec.xor_assoc] using this
  apply BitVec.eq_of_getLsbD_eq
  intro i hi
  cases i with
  | zero => exact h0
  | succ i =>
    have := congrArg (fun c => c.getLsbD i) h1
    simpa [BitVec.getLsbD_ushiftRight, Nat.add_comm] using this
theorem Tn_inj (n : Nat) : ∀ {a b : BitVec 32}, Tn n a = Tn n b → a = b := by
  induction n with
  | zero => intro a b h; exact h
  | succ n ih => intro a b h; exact T_inj (ih h)
theorem xor_cancel {a b c : BitVec 32} (h : a ^^^ c = b ^^^ c) : a = b := by
  have := congrArg (fun x => x ^^^ c) h
  simpa [BitVec.xor_assoc] using this
theorem xor_cancel_left {a b c : BitVec 32} (h : c ^^^ a = c ^^^ b) : a = b := by
  rw [BitVec.xor_comm c a, BitVec.xor_comm c b] at h; exact xor_cancel h
theorem up_inj {a b : BitVec 32} {x : UInt8} (h : up a x = up b x) : a = b := xor_cancel (Tn_inj 8 h)
theorem up_inj_byte {a : BitVec 32} {x y : UInt8} (h : up a x = up a y) : x = y := by
  have h1 := xor_cancel_left (Tn_inj 8 h)
  have h2 := congrArg BitVec.toNat h1
  simp only [BitVec.toNat_ofNat] at h2
  have hx := x.toNat_lt
  have hy := y.toNat_lt
  exact UInt8.toNat_inj.1 (by omega)
theorem run_inj (l : List UInt8) : ∀ {a b : BitVec 32}, run a l = run b l → a = b := by
  induction l with
  | nil => intro a b h; exact h
  | cons x l ih => intro a b h; exact up_inj (ih h)
theorem run_append (a : BitVec 32) (p q : List UInt8) : run a (p ++ q) = run (run a p) q := by simp [run]
/-- Another byte, another sum. -/
theorem crc_byte {p q : List UInt8} {x y : UInt8} (h : crc (p ++ x :: q) = crc (p ++ y :: q)) : x = y := by
  have h1 := xor_cancel_left h
  rw [run_append, run_append] at h1
  exact up_inj_byte (run_inj q h1)

/-! ### a sum's bytes -/
def le4 (n : Nat) : List UInt8 := [UInt8.ofNat (n % 256), UInt8.ofNat (n / 256 % 256), UInt8.ofNat (n / 65536 % 256), UInt8.ofNat (n / 16777216 % 256)]
theorem ofNat_inj {a b : Nat} (ha : a < 256) (hb : b < 256) (h : UInt8.ofNat a = UInt8.ofNat b) : a = b := by
  have := congrArg UInt8.toNat h
  rwa [Base.ofNat_toNat a ha, Base.ofNat_toNat b hb] at this
theorem le4_inj {n m : Nat} (hn : n < 4294967296) (hm : m < 4294967296) (h : le4 n = le4 m) : n = m := by
  simp only [le4, List.cons.injEq, and_true] at h
  obtain ⟨h1, h2, h3, h4⟩ := h
  have := ofNat_inj (by omega) (by omega) h1
  have := ofNat_inj (by omega) (by omega) h2
  have := ofNat_inj (by omega) (by omega) h3
  have := ofNat_inj (by omega) (by omega) h4
  omega
def seal_ (l : List UInt8) : List UInt8 := l ++ le4 (crc l).toNat
def open_ (l : List UInt8) : List UInt8 × Nat := if l.length < 4 then ([], 2) else if seal_ (l.take (l.length - 4)) = l then (l.take (l.length - 4), 0) else ([], 5)
theorem seal_length (l : List UInt8) : (seal_ l).length = l.length + 4 := by simp [seal_, le4]
theorem open_seal (l : List UInt8) : open_ (seal_ l) = (l, 0) := by
  unfold open_
  have h := seal_length l
  have e : (seal_ l).take ((seal_ l).length - 4) = l := by rw [h]; simp [seal_]
  rw [if_neg (by omega), e, if_pos rfl]
/-- A sealed text with one byte turned is none. -/
theorem open_turned (l : List UInt8) (p q : List UInt8) (x y : UInt8) (h : seal_ l = p ++ x :: q) (hxy : x ≠ y) : open_ (p ++ y :: q) = ([], 5) := by
  have hl := seal_length l
  have hs : (p ++ y :: q).length = l.length + 4 := by rw [← hl, h]; simp
  unfold open_
  rw [if_neg (by omega), if_neg]
  rw [hs, show l.length + 4 - 4 = l.length by omega]
  intro hc
  by_cases hk : p.length < l.length
  · -- the byte stands in the text
    obtain ⟨q1, hq1, hq⟩ : ∃ q1, l = p ++ x :: q1 ∧ q = q1 ++ le4 (crc l).toNat := by
      have h2 : l ++ le4 (crc l).toNat = p ++ (x :: q) := h
      rcases List.append_eq_append_iff.1 h2 with ⟨a, ha, hb⟩ | ⟨a, ha, hb⟩
      · have := congrArg List.length ha; simp at this; omega
      · cases a with
        | nil => simp at ha; rw [ha] at hk; omega
        | cons z a =>
          simp only [List.cons_append, List.cons.injEq] at hb
          obtain ⟨rfl, hb⟩ := hb
          exact ⟨a, ha, hb⟩
    have ht : (p ++ y :: q).take l.length = p ++ y :: q1 := by
      have hl1 : l.length = (p ++ y :: q1).length := by rw [hq1]; simp
      rw [hl1, hq, show p ++ y :: (q1 ++ le4 (crc l).toNat) = (p ++ y :: q1) ++ le4 (crc l).toNat by simp, List.take_left]
    rw [ht, hq] at hc
    have hc2 : (p ++ y :: q1) ++ le4 (crc (p ++ y :: q1)).toNat = (p ++ y :: q1) ++ le4 (crc l).toNat := by rw [show (p ++ y :: q1) ++ le4 (crc l).toNat = p ++ y :: (q1 ++ le4 (crc l).toNat) by simp]; exact hc
    have h3 := le4_inj (by exact BitVec.isLt _) (by exact BitVec.isLt _) (List.append_cancel_left hc2)
    have h4 : crc (p ++ y :: q1) = crc (p ++ x :: q1) := by rw [← hq1]; exact BitVec.eq_of_toNat_eq h3
    exact hxy (crc_byte h4).symm
  · -- in the sum
    have ht : (p ++ y :: q).take l.length = l := by
      rw [List.take_append_of_le_length (by omega)]
      have : (seal_ l).take l.length = l := by simp [seal_]
      rw [h, List.take_append_of_le_length (by omega)] at this
      exact this
    rw [ht, h] at hc
    have := List.append_cancel_left hc
    simp at this
    exact hxy this

/-! ### the program's -/
theorem xor_bv (a b : BitVec 32) : Go.bits .xor .u32 ((a.toNat : Nat) : Int) ((b.toNat : Nat) : Int) = (((a ^^^ b).toNat : Nat) : Int) := by
  rw [u32_xor_nat _ _ (by exact a.isLt) (by exact b.isLt), BitVec.toNat_xor]
theorem low_bv (a : BitVec 32) : (Go.bits .and .u32 ((a.toNat : Nat) : Int) 1 = 1) ↔ a.getLsbD 0 = true := by
  have := u32_and_nat a.toNat 1 a.isLt (by decide)
  rw [show (1 : Int) = ((1 : Nat) : Int) by rfl, this]
  simp [BitVec.getLsbD, Nat.testBit]
  omega
theorem half_bv (a : BitVec 32) : ((a.toNat : Nat) : Int) / (2 : Int) = (((a >>> 1).toNat : Nat) : Int) := by
  rw [BitVec.toNat_ushiftRight, Nat.shiftRight_eq_div_pow]; omega
theorem sum_l1 (l : List UInt8) (n i : Nat) (r : Int) (d : Nat) : ∀ (j : Nat) (c : BitVec 32), j + d = 8 → Ev (fun k => crc_Sum.l0 k (mkB l) (((Tn d c).toNat : Nat) : Int) (n : Int) (wrap64 ((i : Int) + 1))) r →
    Ev (fun k => crc_Sum.l1 k (mkB l) ((c.toNat : Nat) : Int) (n : Int) (i : Int) (j : Int)) r := by
  induction d with
  | zero =>
    intro j c hj h
    refine Ev.step (fun k => by rw [crc_Sum.l1]) ?_
    exact Base.Ev.ite_neg (by omega) h
  | succ d ih =>
    intro j c hj h
    refine Ev.step (fun k => by rw [crc_Sum.l1]) ?_
    refine Base.Ev.ite_pos (by omega) ?_
    rw [w64 (x := (j : Int) + 1) (by omega) (by omega), show (j : Int) + 1 = ((j + 1 : Nat) : Int) by omega]
    by_cases hb : c.getLsbD 0 = true
    · refine Base.Ev.ite_pos ((low_bv c).2 hb) ?_
      have e : Go.bits .xor .u32 (((c.toNat : Nat) : Int) / 2) 3988292384 = (((T c).toNat : Nat) : Int) := by
        have h2 := xor_bv (c >>> 1) poly
        rw [half_bv, show (3988292384 : Int) = ((poly.toNat : Nat) : Int) by decide, h2]
        unfold T; rw [if_pos hb]
      rw [e]
      exact ih (j + 1) (T c) (by omega) h
    · refine Base.Ev.ite_neg (fun hh => hb ((low_bv c).1 hh)) ?_
      have e : ((c.toNat : Nat) : Int) / 2 = (((T c).toNat : Nat) : Int) := by
        rw [half_bv]; unfold T; rw [if_neg hb]; simp
      rw [e]
      exact ih (j + 1) (T c) (by omega) h
theorem sum_l0 (l : List UInt8) (hl : l.length ≤ 9223372036854775000) (d : Nat) : ∀ (i : Nat) (c : BitVec 32), i + d = l.length →
    Ev (fun k => crc_Sum.l0 k (mkB l) ((c.toNat : Nat) : Int) (l.length : Int) (i : Int)) (((BitVec.allOnes 32 ^^^ run c (l.drop i)).toNat : Nat) : Int) := by
  induction d with
  | zero =>
    intro i c hi
    refine Ev.step (fun k => by rw [crc_Sum.l0]) ?_
    refine Base.Ev.ite_neg (by omega) ?_
    refine Base.Ev.eq ?_ (Ev.now _)
    rw [List.drop_of_length_le (by omega), show (4294967295 : Int) = (((BitVec.allOnes 32).toNat : Nat) : Int) by decide, xor_bv]; rfl
  | succ d ih =>
    intro i c hi
    have hil : i < l.length := by omega
    refine Ev.step (fun k => by rw [crc_Sum.l0]) ?_
    refine Base.Ev.ite_pos (by omega) ?_
    refine Base.Ev.ite_pos (by omega) ?_
    refine Base.Ev.ite_pos (by rw [mkB_size]; omega) ?_
    have hb := (l[i]).toNat_lt
    have e : Go.bits .xor .u32 ((c.toNat : Nat) : Int) ((bt (mkB l) (i : Int)) % 4294967296) = (((c ^^^ BitVec.ofNat 32 l[i].toNat).toNat : Nat) : Int) := by
      rw [mkB_bt l i hil, ← xor_bv]
      congr 1
      all_goals (rw [BitVec.toNat_ofNat]; omega)
    rw [e]
    refine sum_l1 l l.length i _ 8 0 _ (by omega) ?_
    rw [w64 (by omega) (by omega), show (i : Int) + 1 = ((i + 1 : Nat) : Int) by omega]
    have := ih (i + 1) (up c l[i]) (by omega)
    rw [List.drop_eq_getElem_cons hil]
    exact this
theorem sum_ev (l : List UInt8) (hl : l.length ≤ 9223372036854775000) : Ev (fun k => crc_Sum.f k (mkB l)) (((crc l).toNat : Nat) : Int) := by
  unfold crc_Sum.f
  rw [mkB_size]
  exact sum_l0 l hl l.length 0 (BitVec.allOnes 32) (by omega)
theorem le4_str (n : Nat) (h : n < 4294967296) : strOfNums [(n : Int) % 256, (n : Int) / 256 % 256, (n : Int) / 65536 % 256, (n : Int) / 16777216 % 256] = mkB (le4 n) := by
  have := mkB_nums [n % 256, n / 256 % 256, n / 65536 % 256, n / 16777216 % 256]
  simpa [le4] using this
theorem seal_ev (l : List UInt8) (hl : l.length ≤ 9223372036854775000) : Ev (fun k => crc_Seal.f k (mkB l)) (mkB (seal_ l)) := by
  unfold crc_Seal.f
  refine Ev.bind (sum_ev l hl) ?_
  refine Base.Ev.pure_bind ?_
  have h := (crc l).isLt
  refine Base.Ev.ite_pos (by rw [le4_str _ (by omega), mkB_size, mkB_size]; simp [le4]; omega) ?_
  rw [le4_str _ (by omega), mkB_append]
  exact Ev.now _
def opened (x : List UInt8 × Nat) : ByteArray × Int := (mkB x.1, (x.2 : Int))
theorem open_ev (l : List UInt8) (hl : l.length ≤ 9223372036854775000) : Ev (fun k => crc_Open.f k (mkB l)) (opened (open_ l)) := by
  unfold crc_Open.f open_
  by_cases h : l.length < 4
  · refine Base.Ev.ite_pos (by rw [mkB_size]; omega) ?_
    rw [if_pos h]; exact Ev.now _
  · refine Base.Ev.ite_neg (by rw [mkB_size]; omega) ?_
    rw [if_neg h]
    have e : (wrap64 (((mkB l).size : Int) - 4)) = ((l.length - 4 : Nat) : Int) := by rw [mkB_size, w64 (by omega) (by omega)]; omega
    rw [e]
    refine Base.Ev.ite_pos (by omega) ?_
    refine Base.Ev.ite_pos (by rw [mkB_size]; omega) ?_
    rw [Int.toNat_natCast, mkB_take]
    refine Ev.bind (seal_ev (l.take (l.length - 4)) (by simp; omega)) ?_
    by_cases hs : seal_ (l.take (l.length - 4)) = l
    · refine Base.Ev.ite_pos (by rw [mkB_toList, mkB_toList]; exact hs) ?_
      rw [if_pos hs]; exact Ev.now _
    · refine Base.Ev.ite_neg (by rw [mkB_toList, mkB_toList]; exact hs) ?_
      rw [if_neg hs]; exact Ev.now _
theorem knows_ev : Ev (fun k => knapsacklaw03_knows.f k) true := by
  unfold knapsacklaw03_knows.f
  refine Ev.bind (open_ev [] (by decide)) ?_
  refine Ev.bind (open_ev [97, 98, 99, 100] (by decide)) ?_
  refine Ev.bind (seal_ev [120] (by decide)) ?_
  refine Ev.bind (open_ev (seal_ [120]) (by rw [seal_length]; decide)) ?_
  refine Ev.bind (sum_ev [49, 50, 51, 52, 53, 54, 55, 56, 57] (by decide)) ?_
  refine Base.Ev.ite_pos (by decide +kernel) ?_
  refine Base.Ev.ite_pos (by decide +kernel) ?_
  refine Base.Ev.ite_pos (by decide +kernel) ?_
  rw [open_seal]
  refine Base.Ev.ite_pos (mkB_toList _) ?_
  exact Ev.now _
end Go.Proofs.Ytnmnplbjhejejaa.Cr
