/- What varint's Put, Get, Text and Take, and the reference's, come to: plain lists of bytes. -/
import Derived.Test.YtnmnplbjhejejaaBase
import Derived.Test.YtnmnplbjhejejaaPAx6
namespace Go.Proofs.Ytnmnplbjhejejaa.Vi
open Go.RowKit Go.Proofs.YtnmnplbjhejejaaW.PrintWords Go.Proofs.YtnmnplbjhejejaaW.PrintLast Go.Proofs.YtnmnplbjhejejaaW.PrintMore Go.Proofs.Ytnmnplbjhejejaa.PA Go.Proofs.Ytnmnplbjhejejaa.Base

/-! ### the numbers' bytes -/
def enc (n : Nat) : List UInt8 := if n < 128 then [UInt8.ofNat n] else UInt8.ofNat (128 + n % 128) :: enc (n / 128)
termination_by n
decreasing_by omega

def dec : Nat → List UInt8 → Option (Nat × List UInt8)
  | _, [] => none
  | i, c :: l => if i ≥ 10 then none else if i = 9 ∧ c.toNat > 1 then none else if c.toNat ≥ 128 then (dec (i + 1) l).map (fun x => (c.toNat % 128 + 128 * x.1, x.2)) else if c.toNat = 0 ∧ i > 0 then none else some (c.toNat, l)

theorem enc_small {n : Nat} (h : n < 128) : enc n = [UInt8.ofNat n] := by rw [enc, if_pos h]
theorem enc_big {n : Nat} (h : 128 ≤ n) : enc n = UInt8.ofNat (128 + n % 128) :: enc (n / 128) := by rw [enc, if_neg (by omega)]
theorem enc_ne (n : Nat) : enc n ≠ [] := by
  rw [enc]; split <;> simp
theorem enc_length_pos (n : Nat) : 0 < (enc n).length := List.length_pos_iff.2 (enc_ne n)

theorem enc_length (d : Nat) : ∀ n, n < 128 ^ (d + 1) → (enc n).length ≤ d + 1 := by
  induction d with
  | zero => intro n h; rw [enc_small (by simpa using h)]; simp
  | succ d ih =>
    intro n h
    by_cases hn : n < 128
    · rw [enc_small hn]; simp
    · rw [enc_big (by omega)]
      have := ih (n / 128) (by rw [Nat.div_lt_iff_lt_mul (by decide)]; rwa [← Nat.pow_succ])
      simp only [List.length_cons]; omega
theorem enc_length10 (n : Nat) (h : n < 18446744073709551616) : (enc n).length ≤ 10 := enc_length 9 n (by omega)

theorem pow7 (i : Nat) (h : i ≤ 9) : (2 : Nat) ^ (64 - 7 * i) = if i = 9 then 2 else 128 * 2 ^ (64 - 7 * (i + 1)) := by
  obtain rfl | rfl | rfl | rfl | rfl | rfl | rfl | rfl | rfl | rfl : i = 0 ∨ i = 1 ∨ i = 2 ∨ i = 3 ∨ i = 4 ∨ i = 5 ∨ i = 6 ∨ i = 7 ∨ i = 8 ∨ i = 9 := by omega
  all_goals rfl

/-- What is got is small. -/
theorem dec_lt (l : List UInt8) : ∀ i v r, dec i l = some (v, r) → i ≤ 9 ∧ v < 2 ^ (64 - 7 * i) := by
  induction l with
  | nil => intro i v r h; simp [dec] at h
  | cons c l ih =>
    intro i v r h
    rw [dec] at h
    split at h
    · simp at h
    · rename_i h10
      have h9 : i ≤ 9 := by omega
      refine ⟨h9, ?_⟩
      rw [pow7 i h9]
      split at h
      · simp at h
      · rename_i hc
        split at h
        · rename_i hc2
          cases hd : dec (i + 1) l with
          | none => rw [hd] at h; simp at h
          | some x =>
            rw [hd] at h
            simp only [Option.map_some, Option.some.injEq, Prod.mk.injEq] at h
            obtain ⟨h1, h2⟩ := ih (i + 1) x.1 x.2 hd
            rw [if_neg (by omega)]
            omega
        · split at h
          · simp at h
          · simp only [Option.some.injEq, Prod.mk.injEq] at h
            obtain ⟨rfl, rfl⟩ := h
            split
            · omega
            · have := Nat.two_pow_pos (64 - 7 * (i + 1)); omega

/-- What is got was put so. -/
theorem dec_put (l : List UInt8) : ∀ i v r, dec i l = some (v, r) → l = enc v ++ r ∧ (i > 0 → v > 0) := by
  induction l with
  | nil => intro i v r h; simp [dec] at h
  | cons c l ih =>
    intro i v r h
    rw [dec] at h
    split at h
    · simp at h
    split at h
    · simp at h
    split at h
    · rename_i hc2
      cases hd : dec (i + 1) l with
      | none => rw [hd] at h; simp at h
      | some x =>
        rw [hd] at h
        simp only [Option.map_some, Option.some.injEq, Prod.mk.injEq] at h
        obtain ⟨rfl, rfl⟩ := h
        obtain ⟨h1, h2⟩ := ih (i + 1) x.1 x.2 hd
        have hx := h2 (by omega)
        have hc := c.toNat_lt
        refine ⟨?_, by omega⟩
        rw [enc_big (by omega)]
        rw [show (c.toNat % 128 + 128 * x.1) / 128 = x.1 by omega, show 128 + (c.toNat % 128 + 128 * x.1) % 128 = c.toNat by omega]
        rw [UInt8.ofNat_toNat, List.cons_append, ← h1]
    · split at h
      · simp at h
      · simp only [Option.some.injEq, Prod.mk.injEq] at h
        obtain ⟨rfl, rfl⟩ := h
        refine ⟨?_, by omega⟩
        rw [enc_small (by omega), UInt8.ofNat_toNat]; rfl

/-- What was put is got, whatever stands behind. -/
theorem dec_enc (d : Nat) : ∀ i v r, i + d = 9 → v < 2 ^ (64 - 7 * i) → (i > 0 → v > 0) → dec i (enc v ++ r) = some (v, r) := by
  induction d with
  | zero =>
    intro i v r hi hv h0
    obtain rfl : i = 9 := by omega
    have hv' : v < 2 := hv
    rw [enc_small (by omega)]
    simp only [List.cons_append, List.nil_append, dec, ofNat_toNat v (by omega)]
    rw [if_neg (by omega), if_neg (by omega), if_neg (by omega), if_neg (by omega)]
  | succ d ih =>
    intro i v r hi hv h0
    rw [pow7 i (by omega), if_neg (by omega)] at hv
    by_cases hn : v < 128
    · rw [enc_small hn]
      simp only [List.cons_append, List.nil_append, dec, ofNat_toNat v (by omega)]
      rw [if_neg (by omega), if_neg (by omega), if_neg (by omega), if_neg (by omega)]
    · rw [enc_big (by omega)]
      simp only [List.cons_append, dec]
      rw [ofNat_toNat _ (by omega), if_neg (by omega), if_neg (by omega), if_pos (by omega), ih (i + 1) (v / 128) r (by omega) (by omega) (by omega)]
      simp only [Option.map_some, Option.some.injEq, Prod.mk.injEq, and_true]
      omega
theorem dec_enc0 (v : Nat) (r : List UInt8) (h : v < 18446744073709551616) : dec 0 (enc v ++ r) = some (v, r) := dec_enc 9 0 v r rfl h (by omega)
theorem dec_lt0 {l : List UInt8} {v : Nat} {r : List UInt8} (h : dec 0 l = some (v, r)) : v < 18446744073709551616 := (dec_lt l 0 v r h).2

/-! ### Put -/
theorem or128 (n : Nat) : Go.bits .or .u8 ((n : Int) % 256) 128 = ((128 + n % 128 : Nat) : Int) := by
  have := u8_or_nat (n % 256) 128 (by omega) (by omega)
  rw [show ((n : Int) % 256) = ((n % 256 : Nat) : Int) by omega, show (128 : Int) = ((128 : Nat) : Int) by rfl, this]
  congr 1
  rw [Nat.or_comm]
  have h2 : n % 256 = 128 * (n / 128 % 2) + n % 128 := by omega
  have h3 : n % 128 < 2 ^ 7 := by omega
  rcases Nat.mod_two_eq_zero_or_one (n / 128) with hb | hb
  · rw [h2, hb]
    have := Nat.two_pow_add_eq_or_of_lt h3 1
    simp at this ⊢
    omega
  · rw [h2, hb]
    have := Nat.two_pow_add_eq_or_of_lt h3 1
    simp at this ⊢
    rw [this, ← Nat.or_assoc]
    simp
def B (xs : List Int) : List UInt8 := xs.map fun n => UInt8.ofNat n.toNat
theorem B_snoc (xs : List Int) (n : Nat) : B (xs ++ [(n : Int)]) = B xs ++ [UInt8.ofNat n] := by simp [B]
theorem put_l0 (d : Nat) : ∀ (n : Nat) (xs : List Int), n < 128 ^ (d + 1) → xs.length + d < 100 → Ev (fun k => varint_Put.l0 k (n : Int) xs) (mkB (B xs ++ enc n)) := by
  have small : ∀ (n : Nat) (xs : List Int), n < 128 → xs.length < 100 → Ev (fun k => varint_Put.l0 k (n : Int) xs) (mkB (B xs ++ enc n)) := by
    intro n xs hn hl
    refine Ev.step (fun k => by rw [varint_Put.l0]) ?_
    refine Base.Ev.ite_neg (by omega) ?_
    refine Base.Ev.ite_pos (by omega) ?_
    refine Base.Ev.eq ?_ (Ev.now _)
    rw [show (n : Int) % 256 = (n : Int) by omega, strOfNums_mkB, enc_small hn, ← B_snoc]; rfl
  induction d with
  | zero => exact fun n xs hn hl => small n xs (by simpa using hn) hl
  | succ d ih =>
    intro n xs hn hl
    by_cases h : n < 128
    · exact small n xs h (by omega)
    · refine Ev.step (fun k => by rw [varint_Put.l0]) ?_
      refine Base.Ev.ite_pos (by omega) ?_
      refine Base.Ev.ite_pos (by omega) ?_
      have e2 : (n : Int) / 128 = ((n / 128 : Nat) : Int) := by omega
      rw [or128, e2]
      refine Base.Ev.eq ?_ (ih (n / 128) (xs ++ [((128 + n % 128 : Nat) : Int)]) (by rw [Nat.div_lt_iff_lt_mul (by decide)]; rwa [← Nat.pow_succ]) (by simp; omega))
      rw [enc_big (by omega : 128 ≤ n), B_snoc]; simp
theorem put_ev (n : Nat) (h : n < 18446744073709551616) : Ev (fun k => varint_Put.f k (n : Int)) (mkB (enc n)) := put_l0 9 n [] (by omega) (by simp)

theorem rput_l0 (d : Nat) : ∀ (n : Nat) (xs : List UInt8), n < 128 ^ (d + 1) → n < 18446744073709551616 → xs.length + d < 100 → Ev (fun k => knapsackref01_Put.l0 k (n : Int) (mkB xs)) (mkB (xs ++ enc n)) := by
  have small : ∀ (n : Nat) (xs : List UInt8), n < 128 → xs.length < 100 → Ev (fun k => knapsackref01_Put.l0 k (n : Int) (mkB xs)) (mkB (xs ++ enc n)) := by
    intro n xs hn hl
    refine Ev.step (fun k => by rw [knapsackref01_Put.l0]) ?_
    refine Base.Ev.ite_neg (by omega) ?_
    refine Base.Ev.pure_bind ?_
    rw [show (n : Int) % 256 = (n : Int) by omega]
    have e : strOfNums [(n : Int)] = mkB [UInt8.ofNat n] := mkB_nums [n]
    rw [e, mkB_size, mkB_size, mkB_append, enc_small hn]
    refine Base.Ev.ite_pos (by simp; omega) ?_
    exact Ev.now _
  induction d with
  | zero => exact fun n xs hn _ hl => small n xs (by simpa using hn) hl
  | succ d ih =>
    intro n xs hn h64 hl
    by_cases h : n < 128
    · exact small n xs h (by omega)
    · refine Ev.step (fun k => by rw [knapsackref01_Put.l0]) ?_
      refine Base.Ev.ite_pos (by omega) ?_
      refine Base.Ev.pure_bind ?_
      rw [show (128 : Int) = ((128 : Nat) : Int) from rfl, tmod_nat, tdiv_nat]
      rw [wu64 (by omega) (by omega), wu64 (by omega) (by omega), show ((128 : Nat) : Int) + ((n % 128 : Nat) : Int) = ((128 + n % 128 : Nat) : Int) by omega, show ((128 + n % 128 : Nat) : Int) % 256 = ((128 + n % 128 : Nat) : Int) by omega]
      have e : strOfNums [((128 + n % 128 : Nat) : Int)] = mkB [UInt8.ofNat (128 + n % 128)] := mkB_nums [128 + n % 128]
      rw [e, mkB_size, mkB_size, mkB_append]
      refine Base.Ev.ite_pos (by simp; omega) ?_
      refine Base.Ev.eq ?_ (ih (n / 128) (xs ++ [UInt8.ofNat (128 + n % 128)]) (by rw [Nat.div_lt_iff_lt_mul (by decide)]; rwa [← Nat.pow_succ]) (by omega) (by simp; omega))
      rw [enc_big (by omega : 128 ≤ n)]; simp
theorem rput_ev (n : Nat) (h : n < 18446744073709551616) : Ev (fun k => knapsackref01_Put.f k (n : Int)) (mkB (enc n)) := rput_l0 9 n [] (by omega) h (by simp)

theorem text_ev (l : List UInt8) (h : l.length ≤ 140737488351232) : Ev (fun k => varint_Text.f k (mkB l)) (mkB (enc l.length ++ l)) := by
  have hp := enc_length10 l.length (by omega)
  unfold varint_Text.f
  rw [mkB_size, wu64 (by omega) (by omega)]
  refine Ev.bind (put_ev l.length (by omega)) ?_
  rw [mkB_size]
  refine Base.Ev.ite_pos (by omega) ?_
  rw [mkB_append]; exact Ev.now _
theorem rtext_ev (l : List UInt8) (h : l.length ≤ 140737488351232) : Ev (fun k => knapsackref01_Text.f k (mkB l)) (mkB (enc l.length ++ l)) := by
  have hp := enc_length10 l.length (by omega)
  unfold knapsackref01_Text.f
  rw [mkB_size, wu64 (by omega) (by omega)]
  refine Ev.bind (rput_ev l.length (by omega)) ?_
  rw [mkB_size]
  refine Base.Ev.ite_pos (by omega) ?_
  rw [mkB_append]; exact Ev.now _

end Go.Proofs.Ytnmnplbjhejejaa.Vi
