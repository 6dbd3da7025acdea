/- What varint's Get and Take, and the reference's, come to. -/
import Derived.Test.YtnmnplbjhejejaaVi
set_option linter.unusedVariables false
namespace Go.Proofs.Ytnmnplbjhejejaa.Vi
open Go.RowKit Go.Proofs.YtnmnplbjhejejaaW.PrintWords Go.Proofs.YtnmnplbjhejejaaW.PrintLast Go.Proofs.YtnmnplbjhejejaaW.PrintMore Go.Proofs.Ytnmnplbjhejejaa.PA Go.Proofs.Ytnmnplbjhejejaa.Base

theorem or_step (A i c : Nat) (hi : i ≤ 9) (hA : A < 2 ^ (7 * i)) (hc : c < 256) (h9 : i = 9 → c ≤ 1) :
    Go.bits .or .u64 (A : Int) (shl .u64 (IntKind.u64.wrap (Go.bits .and .u8 (c : Int) 127)) (wrap64 (7 * (i : Int)))) = ((A + 2 ^ (7 * i) * (c % 128) : Nat) : Int) := by
  have h1 : Go.bits .and .u8 (c : Int) 127 = ((c % 128 : Nat) : Int) := by
    have := u8_and_nat c 127 hc (by omega)
    rw [show (127 : Int) = ((127 : Nat) : Int) by rfl, this]
    congr 1
    exact Nat.and_two_pow_sub_one_eq_mod c 7
  have h2 : 2 ^ (7 * i) * (c % 128) < 18446744073709551616 := by
    obtain rfl | rfl | rfl | rfl | rfl | rfl | rfl | rfl | rfl | rfl : i = 0 ∨ i = 1 ∨ i = 2 ∨ i = 3 ∨ i = 4 ∨ i = 5 ∨ i = 6 ∨ i = 7 ∨ i = 8 ∨ i = 9 := by omega
    all_goals (simp at h9 ⊢; omega)
  have h3 : A < 18446744073709551616 := by
    obtain rfl | rfl | rfl | rfl | rfl | rfl | rfl | rfl | rfl | rfl : i = 0 ∨ i = 1 ∨ i = 2 ∨ i = 3 ∨ i = 4 ∨ i = 5 ∨ i = 6 ∨ i = 7 ∨ i = 8 ∨ i = 9 := by omega
    all_goals (simp at hA ⊢; omega)
  rw [h1, wu64 (by omega) (by omega), w64 (by omega) (by omega)]
  have h4 : shl .u64 ((c % 128 : Nat) : Int) (7 * (i : Int)) = ((2 ^ (7 * i) * (c % 128) : Nat) : Int) := by
    unfold shl
    rw [show (7 * (i : Int)).toNat = 7 * i by omega, show min (7 * i) (IntKind.bits .u64) = 7 * i by simp [IntKind.bits]; omega]
    have : ((c % 128 : Nat) : Int) * 2 ^ (7 * i) = ((2 ^ (7 * i) * (c % 128) : Nat) : Int) := by
      rw [Nat.mul_comm]; push_cast; rw [Int.mul_comm]
    rw [this, wu64 (by omega) (by omega)]
  rw [h4, u64_or_nat _ _ h3 h2]
  congr 1
  rw [Nat.or_comm, ← Nat.two_pow_add_eq_or_of_lt hA, Nat.add_comm]

def res (A i : Nat) : Option (Nat × List UInt8) → Int × ByteArray × Int
  | none => (0, mkB [], 2)
  | some x => (((A + 2 ^ (7 * i) * x.1 : Nat) : Int), mkB x.2, 0)

theorem get_l0 (l : List UInt8) (hl : l.length ≤ 9223372036854775000) (d : Nat) : ∀ (i A : Nat), i + d = min l.length 10 → A < 2 ^ (7 * i) →
    Ev (fun k => varint_Get.l0 k (mkB l) (A : Int) ((min l.length 10 : Nat) : Int) (i : Int)) (res A i (dec i (l.drop i))) := by
  induction d with
  | zero =>
    intro i A hi hA
    refine Ev.step (fun k => by rw [varint_Get.l0]) ?_
    refine Base.Ev.ite_neg (by omega) ?_
    refine Base.Ev.eq ?_ (Ev.now _)
    have : dec i (l.drop i) = none := by
      by_cases h : l.length ≤ 10
      · rw [List.drop_of_length_le (by omega)]; rfl
      · rw [List.drop_eq_getElem_cons (by omega), dec, if_pos (by omega)]
    rw [this]; rfl
  | succ d ih =>
    intro i A hi hA
    have hil : i < l.length := by omega
    have hi9 : i ≤ 9 := by omega
    have hc := l[i].toNat_lt
    refine Ev.step (fun k => by rw [varint_Get.l0]) ?_
    refine Base.Ev.ite_pos (by omega) ?_
    refine Base.Ev.ite_pos (by omega) ?_
    rw [mkB_size, mkB_bt l i hil]
    refine Base.Ev.ite_pos (by omega) ?_
    rw [List.drop_eq_getElem_cons hil, dec, if_neg (by omega)]
    have key : ∀ b : Bool, (b = true ↔ (i = 9 ∧ l[i].toNat > 1)) → Ev (fun n => varint_Get.j1 n (mkB l) (A : Int) (i : Int) (l[i].toNat : Int) ((min l.length 10 : Nat) : Int) (i : Int) b)
        (res A i (if i = 9 ∧ l[i].toNat > 1 then none else if l[i].toNat ≥ 128 then (dec (i + 1) (l.drop (i + 1))).map (fun x => (l[i].toNat % 128 + 128 * x.1, x.2)) else if l[i].toNat = 0 ∧ i > 0 then none else some (l[i].toNat, l.drop (i + 1)))) := by
      intro b hb
      refine Ev.step (fun k => by rw [varint_Get.j1]) ?_
      by_cases h9 : i = 9 ∧ l[i].toNat > 1
      · refine Base.Ev.ite_pos (hb.2 h9) ?_
        rw [if_pos h9]; exact Ev.now _
      · refine Base.Ev.ite_neg (fun h => h9 (hb.1 h)) ?_
        rw [if_neg h9]
        refine Base.Ev.ite_pos (by rw [w64 (by omega) (by omega)]; omega) ?_
        rw [or_step A i l[i].toNat hi9 hA hc (by omega), w64 (x := (i : Int) + 1) (by omega) (by omega)]
        by_cases h128 : l[i].toNat ≥ 128
        · refine Base.Ev.ite_pos (by omega) ?_
          rw [if_pos h128]
          have h2 : 2 ^ (7 * (i + 1)) = 2 ^ (7 * i) * 128 := by rw [Nat.mul_add, Nat.pow_add]
          have h3 : 2 ^ (7 * i) * (l[i].toNat % 128) ≤ 2 ^ (7 * i) * 127 := Nat.mul_le_mul_left _ (by omega)
          refine Base.Ev.eq ?_ (ih (i + 1) (A + 2 ^ (7 * i) * (l[i].toNat % 128)) (by omega) (by omega))
          cases dec (i + 1) (l.drop (i + 1)) with
          | none => rfl
          | some x =>
            simp only [res, Option.map_some, Prod.mk.injEq, and_true]
            congr 1
            rw [h2, Nat.mul_add, Nat.add_assoc, Nat.mul_assoc]
        · refine Base.Ev.ite_neg (by omega) ?_
          rw [if_neg h128]
          have hsome : Ev (fun n => if (0 : Int) ≤ (i : Int) + 1 then (if (i : Int) + 1 ≤ (((mkB l).size : Nat) : Int) then some ((((A + 2 ^ (7 * i) * (l[i].toNat % 128) : Nat) : Int)), (mkB l).extract ((i : Int) + 1).toNat (mkB l).size, (0 : Int)) else none) else none) (res A i (some (l[i].toNat, l.drop (i + 1)))) := by
            rw [mkB_drop, mkB_size, if_pos (by omega), if_pos (by omega)]
            refine Base.Ev.eq ?_ (Ev.now _)
            simp only [res, Prod.mk.injEq, and_true]
            exact ⟨by rw [Nat.mod_eq_of_lt (by omega)], by congr 2⟩
          by_cases h0 : l[i].toNat = 0
          · refine Base.Ev.ite_pos (by omega) ?_
            by_cases hi0 : i > 0
            · refine Base.Ev.ite_pos (by omega) ?_
              rw [if_pos ⟨h0, hi0⟩]; exact Ev.now _
            · refine Base.Ev.ite_neg (by omega) ?_
              rw [if_neg (show ¬ (l[i].toNat = 0 ∧ i > 0) by omega)]
              exact hsome
          · refine Base.Ev.ite_neg (by omega) ?_
            rw [if_neg (show ¬ (l[i].toNat = 0 ∧ i > 0) by omega)]
            exact hsome
    by_cases h9 : i = 9
    · refine Base.Ev.ite_pos (by omega) ?_
      exact key _ (by simp; omega)
    · refine Base.Ev.ite_neg (by omega) ?_
      exact key _ (by simp; omega)

/-- What Get tells. -/
def got : Option (Nat × List UInt8) → Int × ByteArray × Int
  | none => (0, mkB [], 2)
  | some x => ((x.1 : Int), mkB x.2, 0)
theorem get_ev (l : List UInt8) (hl : l.length ≤ 9223372036854775000) : Ev (fun k => varint_Get.f k (mkB l)) (got (dec 0 l)) := by
  have h := get_l0 l hl (min l.length 10) 0 0 (by omega) (by decide)
  have e : res 0 0 (dec 0 (l.drop 0)) = got (dec 0 l) := by
    rw [List.drop_zero]
    cases dec 0 l <;> simp [res, got]
  rw [e] at h
  unfold varint_Get.f
  rw [mkB_size, show mn (l.length : Int) 10 = ((min l.length 10 : Nat) : Int) by unfold mn; split <;> omega]
  exact h

/-! ### the reference's Get -/
/-- How many bytes of 128 or more stand ahead, 10 at most. -/
def heads : Nat → List UInt8 → Nat
  | 0, _ => 0
  | _, [] => 0
  | d + 1, c :: l => if c.toNat ≥ 128 then heads d l + 1 else 0
theorem heads_le (d : Nat) : ∀ l, heads d l ≤ d ∧ heads d l ≤ l.length := by
  induction d with
  | zero => intro l; simp [heads]
  | succ d ih =>
    intro l
    cases l with
    | nil => simp [heads]
    | cons c l =>
      have := ih l
      simp only [heads]
      split <;> simp <;> omega
theorem heads_get (d : Nat) : ∀ l (j : Nat) (h : j < l.length), j < heads d l → l[j].toNat ≥ 128 := by
  induction d with
  | zero => intro l j h hj; simp [heads] at hj
  | succ d ih =>
    intro l j h hj
    cases l with
    | nil => simp at h
    | cons c l =>
      simp only [heads] at hj
      split at hj
      · cases j with
        | zero => simpa
        | succ j => simpa using ih l j (by simpa using h) (by omega)
      · omega
theorem heads_end (d : Nat) : ∀ l (h : heads d l < l.length), heads d l < d → l[heads d l].toNat < 128 := by
  induction d with
  | zero => intro l h hj; omega
  | succ d ih =>
    intro l h hj
    cases l with
    | nil => simp at h
    | cons c l =>
      by_cases hc : c.toNat ≥ 128
      · have e : heads (d + 1) (c :: l) = heads d l + 1 := by simp [heads, hc]
        simp only [e] at h hj ⊢
        simpa using ih l (by simpa using h) (by omega)
      · have e : heads (d + 1) (c :: l) = 0 := by simp [heads, hc]
        simp only [e]
        simpa using hc
/-- The value of bytes, the lowest first. -/
def val : List UInt8 → Nat
  | [] => 0
  | c :: l => c.toNat % 128 + 128 * val l
/-- dec, by the reference's way. -/
theorem dec_heads (d : Nat) : ∀ i l, i + d = 10 → dec i l = if h : heads d l < l.length ∧ heads d l < d then (if (i + heads d l = 9 ∧ l[heads d l].toNat > 1) ∨ (i + heads d l > 0 ∧ l[heads d l].toNat = 0) then none else some (val (l.take (heads d l + 1)), l.drop (heads d l + 1))) else none := by
  induction d with
  | zero =>
    intro i l hi
    rw [dif_neg (by omega)]
    cases l with
    | nil => rfl
    | cons c l => rw [dec, if_pos (by omega)]
  | succ d ih =>
    intro i l hi
    cases l with
    | nil => rw [dif_neg (by simp)]; rfl
    | cons c l =>
      rw [dec, if_neg (by omega)]
      by_cases hc : c.toNat ≥ 128
      · have e : heads (d + 1) (c :: l) = heads d l + 1 := by simp [heads, hc]
        rw [if_pos hc, ih (i + 1) l (by omega)]
        simp only [e]
        by_cases h9 : i = 9
        · rw [if_pos ⟨h9, by omega⟩, dif_neg (by have := heads_le d l; omega)]
        · rw [if_neg (by omega)]
          by_cases h : heads d l < l.length ∧ heads d l < d
          · rw [dif_pos h, dif_pos (by simp; omega)]
            simp only [List.getElem_cons_succ]
            by_cases hz : i + 1 + heads d l = 9 ∧ l[heads d l].toNat > 1 ∨ i + 1 + heads d l > 0 ∧ l[heads d l].toNat = 0
            · rw [if_pos hz, if_pos (by omega)]; rfl
            · rw [if_neg hz, if_neg (by omega)]
              simp [val]
          · rw [dif_neg h, dif_neg (by simp; omega)]; rfl
      · have e : heads (d + 1) (c :: l) = 0 := by simp [heads, hc]
        simp only [e]
        rw [dif_pos (by simp)]
        simp only [List.getElem_cons_zero]
        by_cases h9 : i = 9 ∧ c.toNat > 1
        · rw [if_pos h9, if_pos (by omega)]
        · rw [if_neg h9, if_neg hc]
          by_cases h0 : c.toNat = 0 ∧ i > 0
          · rw [if_pos h0, if_pos (by omega)]
          · rw [if_neg h0, if_neg (by omega)]
            simp [val]; omega

theorem rl0 (l : List UInt8) (hl : l.length ≤ 9223372036854775000) (r : Int × Int) (h : Ev (fun k => knapsackref01_Get.j1 k (mkB l) ((heads 10 l : Nat) : Int)) r) (d : Nat) : ∀ j : Nat, j + d = heads 10 l → Ev (fun k => knapsackref01_Get.l0 k (mkB l) (j : Int)) r := by
  have hE := heads_le 10 l
  induction d with
  | zero =>
    intro j hj
    obtain rfl : j = heads 10 l := by omega
    refine Ev.step (fun k => by rw [knapsackref01_Get.l0]) ?_
    rw [mkB_size]
    by_cases h1 : heads 10 l < l.length
    · refine Base.Ev.ite_pos (by omega) ?_
      by_cases h2 : heads 10 l < 10
      · refine Base.Ev.ite_pos (by omega) ?_
        refine Base.Ev.ite_pos (by omega) ?_
        have := heads_end 10 l h1 h2
        rw [mkB_bt l _ h1]
        exact Base.Ev.ite_neg (by omega) h
      · exact Base.Ev.ite_neg (by omega) h
    · exact Base.Ev.ite_neg (by omega) h
  | succ d ih =>
    intro j hj
    refine Ev.step (fun k => by rw [knapsackref01_Get.l0]) ?_
    rw [mkB_size]
    refine Base.Ev.ite_pos (by omega) ?_
    refine Base.Ev.ite_pos (by omega) ?_
    refine Base.Ev.ite_pos (by omega) ?_
    have := heads_get 10 l j (by omega) (by omega)
    rw [mkB_bt l j (by omega)]
    refine Base.Ev.ite_pos (by omega) ?_
    rw [w64 (by omega) (by omega), show (j : Int) + 1 = ((j + 1 : Nat) : Int) by omega]
    exact ih (j + 1) (by omega)

theorem val_take (l : List UInt8) (j : Nat) (h : j < l.length) : val (l.drop j) = l[j].toNat % 128 + 128 * val (l.drop (j + 1)) := by
  rw [List.drop_eq_getElem_cons h]; rfl

/-- What the reference's Get tells. -/
def rgot (n : Nat) : Option (Nat × List UInt8) → Int × Int
  | none => (0, 0)
  | some x => ((x.1 : Int), ((n - x.2.length : Nat) : Int))
theorem rl1 (l : List UInt8) (hl : l.length ≤ 9223372036854775000) (E : Nat) (hE : E < l.length) (m : Nat) : m ≤ E + 1 →
    Ev (fun k => knapsackref01_Get.l1 k (mkB l) (E : Int) ((val ((l.take (E + 1)).drop m) % 18446744073709551616 : Nat) : Int) ((m : Int) - 1)) (((val (l.take (E + 1)) % 18446744073709551616 : Nat) : Int), ((E + 1 : Nat) : Int)) := by
  induction m with
  | zero =>
    intro hm
    refine Ev.step (fun k => by rw [knapsackref01_Get.l1]) ?_
    refine Base.Ev.ite_neg (by omega) ?_
    refine Base.Ev.eq ?_ (Ev.now _)
    rw [w64 (by omega) (by omega)]; rfl
  | succ m ih =>
    intro hm
    have hml : m < l.length := by omega
    refine Ev.step (fun k => by rw [knapsackref01_Get.l1]) ?_
    rw [mkB_size]
    refine Base.Ev.ite_pos (by omega) ?_
    refine Base.Ev.ite_pos (by omega) ?_
    refine Base.Ev.ite_pos (by omega) ?_
    rw [show ((m + 1 : Nat) : Int) - 1 = (m : Int) by omega, mkB_bt l m hml, show (128 : Int) = ((128 : Nat) : Int) from rfl, tmod_nat]
    have e : val ((l.take (E + 1)).drop m) = l[m].toNat % 128 + 128 * val ((l.take (E + 1)).drop (m + 1)) := by
      rw [val_take _ m (by simp; omega)]; simp
    have e2 : IntKind.u64.wrap (IntKind.u64.wrap (((128 : Nat) : Int) * ((val ((l.take (E + 1)).drop (m + 1)) % 18446744073709551616 : Nat) : Int)) + IntKind.u64.wrap ((l[m].toNat % 128 : Nat) : Int)) = ((val ((l.take (E + 1)).drop m) % 18446744073709551616 : Nat) : Int) := by
      rw [e]
      simp only [wu64_mod]
      omega
    rw [e2, w64 (by omega) (by omega)]
    exact ih (by omega)

theorem rget_ev (l : List UInt8) (hl : l.length ≤ 9223372036854775000) : Ev (fun k => knapsackref01_Get.f k (mkB l)) (rgot l.length (dec 0 l)) := by
  have hE := heads_le 10 l
  unfold knapsackref01_Get.f
  refine rl0 l hl _ ?_ (heads 10 l) 0 (by omega)
  rw [dec_heads 10 0 l rfl]
  have j3t : Ev (fun k => knapsackref01_Get.j3 k (mkB l) ((heads 10 l : Nat) : Int) true) ((0 : Int), (0 : Int)) := by
    refine Ev.step (fun k => by rw [knapsackref01_Get.j3]) ?_
    exact Base.Ev.ite_pos rfl (Ev.now _)
  have j2t : Ev (fun k => knapsackref01_Get.j2 k (mkB l) ((heads 10 l : Nat) : Int) true) ((0 : Int), (0 : Int)) := by
    refine Ev.step (fun k => by rw [knapsackref01_Get.j2]) ?_
    exact Base.Ev.ite_pos rfl (Ev.now _)
  refine Ev.step (fun k => by rw [knapsackref01_Get.j1]) ?_
  rw [mkB_size]
  by_cases h1 : heads 10 l < l.length
  · refine Base.Ev.ite_neg (by omega) ?_
    by_cases h2 : heads 10 l < 10
    · rw [dif_pos ⟨h1, h2⟩, show decide (((heads 10 l : Nat) : Int) ≥ 10) = false by simp; omega]
      have hb := mkB_bt l (heads 10 l) h1
      have hc := (l[heads 10 l]).toNat_lt
      have j3f : ¬ ((0 + heads 10 l = 9 ∧ l[heads 10 l].toNat > 1) ∨ (0 + heads 10 l > 0 ∧ l[heads 10 l].toNat = 0)) → Ev (fun k => knapsackref01_Get.j3 k (mkB l) ((heads 10 l : Nat) : Int) false) (rgot l.length (some (val (l.take (heads 10 l + 1)), l.drop (heads 10 l + 1)))) := by
        intro hz
        refine Ev.step (fun k => by rw [knapsackref01_Get.j3]) ?_
        refine Base.Ev.ite_neg (by simp) ?_
        have hd := dec_heads 10 0 l rfl
        rw [dif_pos ⟨h1, h2⟩, if_neg hz] at hd
        have hv := dec_lt0 hd
        have := rl1 l hl (heads 10 l) h1 (heads 10 l + 1) (by omega)
        rw [List.drop_of_length_le (by simp; omega)] at this
        refine Base.Ev.eq ?_ (by simpa [val] using this)
        simp only [rgot, Prod.mk.injEq, List.length_drop]
        exact ⟨by omega, by omega⟩
      refine Ev.step (fun k => by rw [knapsackref01_Get.j2]) ?_
      refine Base.Ev.ite_neg (by simp) ?_
      by_cases h9 : heads 10 l = 9
      · refine Base.Ev.ite_pos (by omega) ?_
        rw [mkB_size]
        refine Base.Ev.ite_pos (by omega) ?_
        have hb9 : bt (mkB l) 9 = (l[heads 10 l].toNat : Int) := by rw [← hb, h9]; rfl
        rw [hb9]
        by_cases hgt : l[heads 10 l].toNat > 1
        · refine Base.Ev.ite_pos (by omega) ?_
          rw [if_pos (by omega)]; exact j3t
        · refine Base.Ev.ite_neg (by omega) ?_
          refine Base.Ev.ite_pos (by omega) ?_
          refine Base.Ev.ite_pos (by omega) ?_
          refine Base.Ev.ite_pos (by omega) ?_
          rw [hb]
          by_cases h0 : l[heads 10 l].toNat = 0
          · rw [if_pos (by omega), show ((l[heads 10 l].toNat : Int) == 0) = true by simp; omega]; exact j3t
          · rw [if_neg (by omega), show ((l[heads 10 l].toNat : Int) == 0) = false by simp; omega]; exact j3f (by omega)
      · refine Base.Ev.ite_neg (by omega) ?_
        by_cases hp : heads 10 l > 0
        · refine Base.Ev.ite_pos (by omega) ?_
          rw [mkB_size]
          refine Base.Ev.ite_pos (by omega) ?_
          refine Base.Ev.ite_pos (by omega) ?_
          rw [hb]
          by_cases h0 : l[heads 10 l].toNat = 0
          · rw [if_pos (by omega), show ((l[heads 10 l].toNat : Int) == 0) = true by simp; omega]; exact j3t
          · rw [if_neg (by omega), show ((l[heads 10 l].toNat : Int) == 0) = false by simp; omega]; exact j3f (by omega)
        · refine Base.Ev.ite_neg (by omega) ?_
          rw [if_neg (by omega)]; exact j3f (by omega)
    · rw [dif_neg (by omega), show decide (((heads 10 l : Nat) : Int) ≥ 10) = true by simp; omega]
      exact j2t
  · refine Base.Ev.ite_pos (by omega) ?_
    rw [dif_neg (by omega)]; exact j2t

/-! ### Take -/
/-- The text that bytes begin with, and what stands behind it. -/
def tak (l : List UInt8) : Option (List UInt8 × List UInt8) :=
  match dec 0 l with
  | none => none
  | some x => if x.1 ≤ x.2.length then some (x.2.take x.1, x.2.drop x.1) else none
def took : Option (List UInt8 × List UInt8) → ByteArray × ByteArray × Int
  | none => (mkB [], mkB [], 2)
  | some x => (mkB x.1, mkB x.2, 0)
def rtook (n : Nat) : Option (List UInt8 × List UInt8) → ByteArray × Int
  | none => (mkB [], 0)
  | some x => (mkB x.1, ((n - x.2.length : Nat) : Int))
theorem dec_length {l : List UInt8} {i v : Nat} {r : List UInt8} (h : dec i l = some (v, r)) : r.length < l.length ∧ l.drop (l.length - r.length) = r := by
  obtain ⟨h1, _⟩ := dec_put l i v r h
  have h2 := enc_length_pos v
  have h3 : l.length = (enc v).length + r.length := by rw [h1]; simp
  refine ⟨by omega, ?_⟩
  rw [show l.length - r.length = (enc v).length by omega, h1]; simp
theorem take_ev (l : List UInt8) (hl : l.length ≤ 9223372036854775000) : Ev (fun k => varint_Take.f k (mkB l)) (took (tak l)) := by
  unfold varint_Take.f tak
  have hg := get_ev l hl
  cases hd : dec 0 l with
  | none =>
    rw [hd] at hg
    exact Ev.bind hg (Base.Ev.ite_neg (by simp [got]) (Ev.now _))
  | some x =>
    obtain ⟨v, r⟩ := x
    have hr := (dec_length hd).1
    rw [hd] at hg
    refine Ev.bind (a := ((v : Int), mkB r, (0 : Int))) hg ?_
    dsimp only
    refine Base.Ev.ite_pos rfl ?_
    rw [mkB_size, wu64 (by omega) (by omega)]
    by_cases h : v ≤ r.length
    · refine Base.Ev.ite_neg (by omega) ?_
      refine Base.Ev.ite_pos (by omega) ?_
      refine Base.Ev.ite_pos (by omega) ?_
      rw [if_pos h, Int.toNat_natCast, mkB_take, ← mkB_size r, mkB_drop]
      exact Ev.now _
    · refine Base.Ev.ite_pos (by omega) ?_
      rw [if_neg h]
      exact Ev.now _
theorem rtake_ev (l : List UInt8) (hl : l.length ≤ 9223372036854775000) : Ev (fun k => knapsackref01_Take.f k (mkB l)) (rtook l.length (tak l)) := by
  unfold knapsackref01_Take.f tak
  have hg := rget_ev l hl
  cases hd : dec 0 l with
  | none =>
    rw [hd] at hg
    exact Ev.bind hg (Base.Ev.ite_pos (by simp [rgot]) (Ev.now _))
  | some x =>
    obtain ⟨v, r⟩ := x
    obtain ⟨hr, hrd⟩ := dec_length hd
    rw [hd] at hg
    refine Ev.bind (a := ((v : Int), ((l.length - r.length : Nat) : Int))) hg ?_
    dsimp only
    refine Base.Ev.ite_neg (by omega) ?_
    rw [mkB_size, w64 (x := (l.length : Int) - _) (by omega) (by omega), wu64 (by omega) (by omega)]
    by_cases h : v ≤ r.length
    · refine Base.Ev.ite_neg (by omega) ?_
      rw [w64 (x := (v : Int)) (by omega) (by omega), w64 (by omega) (by omega)]
      refine Base.Ev.ite_pos (by omega) ?_
      refine Base.Ev.ite_pos (by omega) ?_
      refine Base.Ev.ite_pos (by omega) ?_
      rw [if_pos h]
      refine Base.Ev.eq ?_ (Ev.now _)
      simp only [rtook, Prod.mk.injEq, List.length_drop]
      refine ⟨?_, by omega⟩
      rw [mkB_extract]
      congr 1
      rw [show ((l.length - r.length : Nat) : Int).toNat = l.length - r.length by omega, hrd]
      congr 1
      omega
    · refine Base.Ev.ite_pos (by omega) ?_
      rw [if_neg h]
      exact Ev.now _
theorem tak_put {l a b : List UInt8} (hl : l.length ≤ 9223372036854775000) (h : tak l = some (a, b)) : l = enc a.length ++ a ++ b := by
  unfold tak at h
  cases hd : dec 0 l with
  | none => rw [hd] at h; simp at h
  | some x =>
    obtain ⟨v, r⟩ := x
    rw [hd] at h
    simp only at h
    split at h
    · rename_i hv
      simp only [Option.some.injEq, Prod.mk.injEq] at h
      obtain ⟨rfl, rfl⟩ := h
      obtain ⟨h1, _⟩ := dec_put l 0 v r hd
      rw [List.length_take, Nat.min_eq_left hv, List.append_assoc, List.take_append_drop]
      exact h1
    · simp at h
theorem tak_text (a r : List UInt8) (h : a.length < 18446744073709551616) : tak (enc a.length ++ a ++ r) = some (a, r) := by
  unfold tak
  rw [List.append_assoc, dec_enc0 _ _ h]
  simp

end Go.Proofs.Ytnmnplbjhejejaa.Vi
