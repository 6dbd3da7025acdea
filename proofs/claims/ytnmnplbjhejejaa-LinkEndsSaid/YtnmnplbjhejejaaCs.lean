/- The reference's long division comes to the same sum. -/
import Derived.Test.YtnmnplbjhejejaaCr
import Derived.Test.YtnmnplbjhejejaaPAx2
set_option linter.unusedVariables false
set_option linter.unusedSimpArgs false
namespace Go.Proofs.Ytnmnplbjhejejaa.Cr
open Go.RowKit Go.Proofs.YtnmnplbjhejejaaW.PrintWords Go.Proofs.YtnmnplbjhejejaaW.PrintLast Go.Proofs.YtnmnplbjhejejaaW.PrintMore Go.Proofs.Ytnmnplbjhejejaa.PA Go.Proofs.Ytnmnplbjhejejaa.Base

def bitsN : Nat → Nat → List Bool
  | 0, _ => []
  | d + 1, n => (n % 2 == 1) :: bitsN d (n / 2)
def msg : List UInt8 → List Bool
  | [] => []
  | c :: l => bitsN 8 c.toNat ++ msg l
theorem bitsN_length (d : Nat) : ∀ n, (bitsN d n).length = d := by
  induction d with
  | zero => intro n; rfl
  | succ d ih => intro n; simp [bitsN, ih]
theorem msg_length (l : List UInt8) : (msg l).length = 8 * l.length := by
  induction l with
  | nil => rfl
  | cons c l ih => simp [msg, bitsN_length, ih]; omega
theorem msg_snoc (l : List UInt8) (c : UInt8) : msg (l ++ [c]) = msg l ++ bitsN 8 c.toNat := by
  induction l with
  | nil => simp [msg]
  | cons d l ih => simp [msg, ih]
/-- One bit, as the program's eight steps have it. -/
def bstep (c : BitVec 32) (m : Bool) : BitVec 32 := T (c ^^^ (if m then 1#32 else 0#32))
def brun (c : BitVec 32) (l : List Bool) : BitVec 32 := l.foldl bstep c
theorem T_bit (c : BitVec 32) (j : Nat) (h : j < 32) : (T c).getLsbD j = (c.getLsbD (j + 1) ^^ (c.getLsbD 0 && poly.getLsbD j)) := by
  unfold T
  rw [BitVec.getLsbD_xor, BitVec.getLsbD_ushiftRight, Nat.add_comm]
  cases hc : c.getLsbD 0 <;> simp
theorem one_bit (j : Nat) : (1#32).getLsbD j = decide (j = 0) := by
  cases j with
  | zero => decide
  | succ j => simp [BitVec.getLsbD_one]
theorem T_half (c : BitVec 32) (n : Nat) (h : n < 2 ^ 32) : T (c ^^^ BitVec.ofNat 32 n) = bstep c (n % 2 == 1) ^^^ BitVec.ofNat 32 (n / 2) := by
  apply BitVec.eq_of_getLsbD_eq
  intro j hj
  unfold bstep
  rw [BitVec.getLsbD_xor, T_bit _ _ hj, T_bit _ _ hj]
  simp only [BitVec.getLsbD_xor, BitVec.getLsbD_ofNat]
  have h0 : n.testBit 0 = (n % 2 == 1) := by simp [Nat.testBit_zero]; rfl
  have h1 : n.testBit (j + 1) = (n / 2).testBit j := Nat.testBit_succ n j
  have h2 : (if (n % 2 == 1) = true then 1#32 else 0#32).getLsbD 0 = (n % 2 == 1) := by cases (n % 2 == 1) <;> decide
  have h3 : (if (n % 2 == 1) = true then 1#32 else 0#32).getLsbD (j + 1) = false := by cases (n % 2 == 1) <;> simp [one_bit]
  rw [h0, h2, h3, h1]
  have h4 : (decide (j + 1 < 32) && (n / 2).testBit j) = (decide (j < 32) && (n / 2).testBit j) := by
    by_cases h5 : j + 1 < 32
    · simp [h5, hj]
    · have h6 : j = 31 := by omega
      subst h6
      have : (n / 2).testBit 31 = false := by rw [← h1]; exact Nat.testBit_lt_two_pow h
      simp [this]
  rw [h4, show decide ((0 : Nat) < 32) = true from rfl, Bool.true_and]
  generalize c.getLsbD (j + 1) = x1
  generalize c.getLsbD 0 = x2
  generalize (decide (j < 32) && (n / 2).testBit j) = x3
  generalize poly.getLsbD j = x4
  generalize (n % 2 == 1) = x5
  cases x1 <;> cases x2 <;> cases x3 <;> cases x4 <;> cases x5 <;> rfl
theorem brun_byte (d : Nat) : ∀ (c : BitVec 32) (n : Nat), n < 2 ^ d → d ≤ 32 → brun c (bitsN d n) = Tn d (c ^^^ BitVec.ofNat 32 n) := by
  induction d with
  | zero => intro c n h _; obtain rfl : n = 0 := by simpa using h
            simp [brun, bitsN, Tn]
  | succ d ih =>
    intro c n h hd
    show brun (bstep c (n % 2 == 1)) (bitsN d (n / 2)) = Tn d (T (c ^^^ BitVec.ofNat 32 n))
    rw [ih _ _ (by rw [Nat.pow_succ] at h; omega) (by omega), T_half c n (Nat.lt_of_lt_of_le h (Nat.pow_le_pow_right (by decide) hd))]
theorem brun_append (c : BitVec 32) (a b : List Bool) : brun c (a ++ b) = brun (brun c a) b := by simp [brun]
theorem brun_msg (l : List UInt8) : ∀ c, brun c (msg l) = run c l := by
  induction l with
  | nil => intro c; rfl
  | cons b l ih =>
    intro c
    rw [msg, brun_append, brun_byte 8 c b.toNat b.toNat_lt (by decide), ih]
    rfl

/-- A list of Bools, by its places. -/
def Is (b : List Bool) (n : Nat) (f : Nat → Bool) : Prop := b.length = n ∧ ∀ q, q < n → b.getD q false = f q
theorem Is.set {b : List Bool} {n : Nat} {f : Nat → Bool} (h : Is b n f) (j : Nat) (v : Bool) : Is (b.set j v) n (fun q => if q = j then v else f q) := by
  refine ⟨by simp [h.1], fun q hq => ?_⟩
  have := h.2 q hq
  have hl := h.1
  by_cases e : q = j
  · subst e; simp [List.getD_eq_getElem?_getD, hl, hq]
  · simp only [e, if_false]
    rw [← this]
    simp [List.getD_eq_getElem?_getD, List.getElem?_set, show ¬ j = q from fun h => e h.symm]
theorem Is.at_ {b : List Bool} {n : Nat} {f : Nat → Bool} (h : Is b n f) (q : Nat) (hq : q < n) : rdOf false b (q : Int) = f q := h.2 q hq
theorem Is.congr {b : List Bool} {n : Nat} {f g : Nat → Bool} (h : Is b n f) (e : ∀ q, q < n → f q = g q) : Is b n g := ⟨h.1, fun q hq => (h.2 q hq).trans (e q hq)⟩

def pows : List Int := [26, 23, 22, 16, 12, 11, 10, 8, 7, 5, 4, 2, 1, 0]
/-- Is place q turned, an odd number of times, by the division's step at place i? -/
def par (i : Nat) : List Int → Nat → Bool
  | [], _ => false
  | p :: ps, q => ((q : Int) == (i : Int) + 32 - p) ^^ par i ps q
theorem par_far (i : Nat) (q : Nat) (h : i + 32 < q) : par i pows q = false := by
  have e : ∀ p : Int, 0 ≤ p → ((q : Int) == (i : Int) + 32 - p) = false := by intro p hp; simp; omega
  simp only [par, pows]
  rw [e 26 (by decide), e 23 (by decide), e 22 (by decide), e 16 (by decide), e 12 (by decide), e 11 (by decide), e 10 (by decide), e 8 (by decide), e 7 (by decide), e 5 (by decide), e 4 (by decide), e 2 (by decide), e 1 (by decide), e 0 (by decide)]
  rfl
theorem par_near (i j : Nat) (h : j < 32) : par i pows (i + 1 + j) = poly.getLsbD j := by
  have e : ∀ (ps : List Int), par i ps (i + 1 + j) = par 0 ps (1 + j) := by
    intro ps
    induction ps with
    | nil => rfl
    | cons p ps ih =>
      simp only [par, ih]
      congr 1
      rw [Bool.eq_iff_iff]; simp; omega
  rw [e]
  have : ∀ j : Fin 32, par 0 pows (1 + j.val) = poly.getLsbD j.val := by decide
  exact this ⟨j, h⟩

theorem powers_ev (r : Int) (f : Nat → List Int → Option Int) (h : Ev (fun k => f k pows) r) : Ev (fun k => (knapsackref03_powers.f).bind (f k)) r := h

/-- The division's state at place i: the window is the register and the message. -/
def Win (f M : Nat → Bool) (c : BitVec 32) (i : Nat) : Prop := (∀ j, j < 32 → f (i + j) = (c.getLsbD j ^^ M (i + j))) ∧ ∀ q, i + 32 ≤ q → f q = M q
theorem bstep_bit (c : BitVec 32) (m : Bool) (j : Nat) (h : j < 32) : (bstep c m).getLsbD j = (c.getLsbD (j + 1) ^^ ((c.getLsbD 0 ^^ m) && poly.getLsbD j)) := by
  unfold bstep
  rw [T_bit _ _ h]
  simp only [BitVec.getLsbD_xor]
  have h2 : (if m = true then 1#32 else 0#32).getLsbD 0 = m := by cases m <;> decide
  have h3 : (if m = true then 1#32 else 0#32).getLsbD (j + 1) = false := by cases m <;> simp [one_bit]
  rw [h2, h3]; simp
theorem Win.step {f M : Nat → Bool} {c : BitVec 32} {i : Nat} (h : Win f M c i) (hb : f i = true) : Win (fun q => f q ^^ par i pows q) M (bstep c (M i)) (i + 1) := by
  have h0 := h.1 0 (by decide)
  rw [Nat.add_zero] at h0
  refine ⟨fun j hj => ?_, fun q hq => ?_⟩
  · rw [bstep_bit _ _ _ hj, ← h0, hb]
    simp only [Bool.true_and, par_near i j hj]
    by_cases hj1 : j + 1 < 32
    · have := h.1 (j + 1) hj1
      rw [show i + 1 + j = i + (j + 1) by omega, this]
      cases c.getLsbD (j + 1) <;> cases M (i + (j + 1)) <;> cases poly.getLsbD j <;> rfl
    · have := h.2 (i + 1 + j) (by omega)
      rw [this, BitVec.getLsbD_of_ge c (j + 1) (by omega)]
      cases M (i + 1 + j) <;> cases poly.getLsbD j <;> rfl
  · simp only [par_far i q (by omega), Bool.xor_false]
    exact h.2 q (by omega)
theorem Win.stay {f M : Nat → Bool} {c : BitVec 32} {i : Nat} (h : Win f M c i) (hb : f i = false) : Win f M (bstep c (M i)) (i + 1) := by
  have h0 := h.1 0 (by decide)
  rw [Nat.add_zero] at h0
  refine ⟨fun j hj => ?_, fun q hq => h.2 q (by omega)⟩
  rw [bstep_bit _ _ _ hj, ← h0, hb]
  simp only [Bool.false_and, Bool.xor_false]
  by_cases hj1 : j + 1 < 32
  · have := h.1 (j + 1) hj1
    rw [show i + 1 + j = i + (j + 1) by omega, this]
  · have := h.2 (i + 1 + j) (by omega)
    rw [this, BitVec.getLsbD_of_ge c (j + 1) (by omega)]
    simp

/-! ### the walk through the reference's loops -/
theorem rs_l5 (N : Nat) (hN : N ≤ 100000) (b : List Bool) (f : Nat → Bool) (hb : Is b (N + 32) f) (D : BitVec 32) (hD : ∀ j, j < 32 → f (N + j) = !D.getLsbD j) (d : Nat) : ∀ i : Nat, i + d = 32 →
    Ev (fun k => knapsackref03_Sum.l5 k b ((D.toNat / 2 ^ d : Nat) : Int) (i : Int)) ((D.toNat : Nat) : Int) := by
  have hlt := D.isLt
  induction d with
  | zero =>
    intro i hi
    refine Ev.step (fun k => by rw [knapsackref03_Sum.l5]) ?_
    refine Base.Ev.ite_neg (by omega) ?_
    refine Base.Ev.eq ?_ (Ev.now _)
    simp
  | succ d ih =>
    intro i hi
    refine Ev.step (fun k => by rw [knapsackref03_Sum.l5]) ?_
    refine Base.Ev.ite_pos (by omega) ?_
    have e : wrap64 (wrap64 ((b.length : Int) - 1) - (i : Int)) = ((N + d : Nat) : Int) := by
      rw [hb.1, w64 (x := ((N + 32 : Nat) : Int) - 1) (by omega) (by omega), w64 (by omega) (by omega)]; omega
    rw [e]
    refine Base.Ev.ite_pos (by omega) ?_
    refine Base.Ev.ite_pos (by rw [hb.1]; omega) ?_
    rw [w64 (x := (i : Int) + 1) (by omega) (by omega), show (i : Int) + 1 = ((i + 1 : Nat) : Int) by omega]
    have hv := hb.at_ (N + d) (by omega)
    rw [hD d (by omega)] at hv
    have hq : D.toNat / 2 ^ d = 2 * (D.toNat / 2 ^ (d + 1)) + (D.toNat / 2 ^ d) % 2 := by
      rw [Nat.pow_succ, ← Nat.div_div_eq_div_mul]; omega
    have hsm : D.toNat / 2 ^ d < 4294967296 := Nat.lt_of_le_of_lt (Nat.div_le_self _ _) hlt
    have ht : D.getLsbD d = decide ((D.toNat / 2 ^ d) % 2 = 1) := by
      rw [BitVec.getLsbD, Nat.testBit_eq_decide_div_mod_eq]
    by_cases hbit : D.getLsbD d = true
    · refine Base.Ev.ite_neg (by rw [hv, hbit]; decide) ?_
      rw [hbit] at ht
      have ht1 : (D.toNat / 2 ^ d) % 2 = 1 := of_decide_eq_true ht.symm
      have e2 : ((2 * ((D.toNat / 2 ^ (d + 1) : Nat) : Int)) % 4294967296 + 1) % 4294967296 = ((D.toNat / 2 ^ d : Nat) : Int) := by omega
      rw [e2]
      exact ih (i + 1) (by omega)
    · have hbit' : D.getLsbD d = false := by simpa using hbit
      refine Base.Ev.ite_pos (by rw [hv, hbit']; rfl) ?_
      rw [hbit'] at ht
      have ht1 : ¬ (D.toNat / 2 ^ d) % 2 = 1 := of_decide_eq_false ht.symm
      have e2 : (2 * ((D.toNat / 2 ^ (d + 1) : Nat) : Int)) % 4294967296 = ((D.toNat / 2 ^ d : Nat) : Int) := by omega
      rw [e2]
      exact ih (i + 1) (by omega)

theorem rs_l4 (n i : Nat) (hn : n ≤ 100000) (hi : i + 32 < n) (r : Int) (ps : List Int) : ∀ (m : Nat) (b : List Bool) (f : Nat → Bool), pows.drop m = ps → Is b n f →
    (∀ b', Is b' n (fun q => f q ^^ par i ps q) → Ev (fun k => knapsackref03_Sum.l3 k b' pows ((i + 1 : Nat) : Int)) r) →
    Ev (fun k => knapsackref03_Sum.l4 k b pows (i : Int) (m : Int)) r := by
  induction ps with
  | nil =>
    intro m b f hm hb h
    have hml : pows.length ≤ m := by
      rcases Nat.lt_or_ge m pows.length with h1 | h1
      · exact absurd (congrArg List.length hm) (by rw [List.length_drop]; simp; omega)
      · exact h1
    refine Ev.step (fun k => by rw [knapsackref03_Sum.l4]) ?_
    refine Base.Ev.ite_neg (by omega) ?_
    rw [w64 (by omega) (by omega), show (i : Int) + 1 = ((i + 1 : Nat) : Int) by omega]
    exact h b (hb.congr fun q _ => by simp [par])
  | cons p ps ih =>
    intro m b f hm hb h
    have hml : m < pows.length := by
      rcases Nat.lt_or_ge m pows.length with h1 | h1
      · exact h1
      · rw [List.drop_of_length_le h1] at hm; simp at hm
    have hm2 : m < 14 := hml
    have hp : pows[m] = p ∧ pows.drop (m + 1) = ps := by
      rw [List.drop_eq_getElem_cons hml] at hm
      exact ⟨(List.cons.inj hm).1, (List.cons.inj hm).2⟩
    have hpb : 0 ≤ p ∧ p ≤ 26 := by
      have : ∀ x ∈ pows, 0 ≤ x ∧ x ≤ 26 := by decide
      exact this p (by rw [← hp.1]; exact List.getElem_mem hml)
    have hrd : rd pows (m : Int) = p := by
      unfold rd
      rw [Int.toNat_natCast, List.getD_eq_getElem?_getD, List.getElem?_eq_getElem hml]; exact hp.1
    refine Ev.step (fun k => by rw [knapsackref03_Sum.l4]) ?_
    refine Base.Ev.ite_pos (by omega) ?_
    refine Base.Ev.ite_pos (by omega) ?_
    obtain ⟨j, hj⟩ : ∃ j : Nat, (i : Int) + 32 - p = (j : Int) := ⟨((i : Int) + 32 - p).toNat, by omega⟩
    have e : wrap64 (wrap64 ((i : Int) + 32) - rd pows (m : Int)) = (j : Int) := by
      rw [hrd, w64 (x := (i : Int) + 32) (by omega) (by omega), w64 (by omega) (by omega)]; exact hj
    rw [e]
    refine Base.Ev.ite_pos (by omega) ?_
    refine Base.Ev.ite_pos (by rw [hb.1]; omega) ?_
    rw [w64 (x := (m : Int) + 1) (by omega) (by omega), show (m : Int) + 1 = ((m + 1 : Nat) : Int) by omega, hb.at_ j (by omega), Int.toNat_natCast]
    refine ih (m + 1) _ _ hp.2 (hb.set j (!f j)) ?_
    intro b' hb'
    refine h b' (hb'.congr fun q _ => ?_)
    simp only [par, hj]
    by_cases e2 : q = j
    · subst e2; simp
    · have : ((q : Int) == (j : Int)) = false := by simp; omega
      simp [e2, this]

theorem rs_l3 (M : Nat → Bool) (N : Nat) (hN : N ≤ 90000) (hM : ∀ j, j < 32 → M (N + j) = false) (d : Nat) : ∀ (i : Nat) (b : List Bool) (f : Nat → Bool) (c : BitVec 32), i + d = N → Is b (N + 32) f → Win f M c i →
    Ev (fun k => knapsackref03_Sum.l3 k b pows (i : Int)) (((BitVec.allOnes 32 ^^^ brun c ((List.range d).map fun j => M (i + j))).toNat : Nat) : Int) := by
  induction d with
  | zero =>
    intro i b f c hi hb hw
    obtain rfl : i = N := by omega
    refine Ev.step (fun k => by rw [knapsackref03_Sum.l3]) ?_
    refine Base.Ev.ite_neg (by rw [hb.1, w64 (by omega) (by omega)]; omega) ?_
    have := rs_l5 i (by omega) b f hb (BitVec.allOnes 32 ^^^ c) (by
      intro j hj
      rw [hw.1 j hj, hM j hj, BitVec.getLsbD_xor, BitVec.getLsbD_allOnes]
      simp [hj]) 32 0 (by omega)
    have hlt := (BitVec.allOnes 32 ^^^ c).isLt
    rw [Nat.div_eq_of_lt hlt] at this
    simpa [brun] using this
  | succ d ih =>
    intro i b f c hi hb hw
    refine Ev.step (fun k => by rw [knapsackref03_Sum.l3]) ?_
    refine Base.Ev.ite_pos (by rw [hb.1, w64 (by omega) (by omega)]; omega) ?_
    refine Base.Ev.ite_pos (by omega) ?_
    refine Base.Ev.ite_pos (by rw [hb.1]; omega) ?_
    have er : brun c ((List.range (d + 1)).map fun j => M (i + j)) = brun (bstep c (M i)) ((List.range d).map fun j => M (i + 1 + j)) := by
      rw [List.range_succ_eq_map]
      simp only [List.map_cons, List.map_map, Nat.add_zero]
      have : ((fun j => M (i + j)) ∘ Nat.succ) = fun j => M (i + 1 + j) := by funext j; simp [show i + (j + 1) = i + 1 + j by omega]
      rw [this]; rfl
    rw [er]
    have hv := hb.at_ i (by omega)
    by_cases hf : f i = true
    · refine Base.Ev.ite_pos (by rw [hv]; exact hf) ?_
      refine rs_l4 (N + 32) i (by omega) (by omega) _ pows 0 b f rfl hb ?_
      intro b' hb'
      exact ih (i + 1) b' _ _ (by omega) hb' (hw.step hf)
    · refine Base.Ev.ite_neg (by rw [hv]; exact hf) ?_
      rw [w64 (by omega) (by omega), show (i : Int) + 1 = ((i + 1 : Nat) : Int) by omega]
      exact ih (i + 1) b f _ (by omega) hb (hw.stay (by simpa using hf))

theorem rs_l2 (n : Nat) (hn : n ≤ 100000) (hn2 : 32 ≤ n) (r : Int) (d : Nat) : ∀ (j : Nat) (b : List Bool) (f : Nat → Bool), j + d = 32 → Is b n f →
    (∀ b', Is b' n (fun q => if j ≤ q ∧ q < 32 then !f q else f q) → Ev (fun k => knapsackref03_Sum.l3 k b' pows 0) r) →
    Ev (fun k => knapsackref03_Sum.l2 k b (j : Int)) r := by
  induction d with
  | zero =>
    intro j b f hj hb h
    refine Ev.step (fun k => by rw [knapsackref03_Sum.l2]) ?_
    refine Base.Ev.ite_neg (by omega) ?_
    exact h b (hb.congr fun q _ => by rw [if_neg (by omega)])
  | succ d ih =>
    intro j b f hj hb h
    refine Ev.step (fun k => by rw [knapsackref03_Sum.l2]) ?_
    refine Base.Ev.ite_pos (by omega) ?_
    refine Base.Ev.ite_pos (by omega) ?_
    refine Base.Ev.ite_pos (by rw [hb.1]; omega) ?_
    rw [w64 (by omega) (by omega), show (j : Int) + 1 = ((j + 1 : Nat) : Int) by omega, hb.at_ j (by omega), Int.toNat_natCast]
    refine ih (j + 1) _ _ (by omega) (hb.set j (!f j)) ?_
    intro b' hb'
    refine h b' (hb'.congr fun q _ => ?_)
    by_cases e : q = j
    · subst e; rw [if_neg (by omega), if_pos rfl, if_pos (by omega)]
    · simp only [e, if_false]
      by_cases e2 : j ≤ q ∧ q < 32
      · rw [if_pos (by omega), if_pos e2]
      · rw [if_neg (by omega), if_neg e2]
theorem rs_l1 (s : List UInt8) (i : Nat) (hi : i ≤ 100000) (r : Int) (d : Nat) : ∀ (j n : Nat) (b : List Bool), j + d = 8 → n < 256 → b.length + d ≤ 100000 →
    Ev (fun k => knapsackref03_Sum.l0 k (mkB s) (b ++ bitsN d n) ((i + 1 : Nat) : Int)) r →
    Ev (fun k => knapsackref03_Sum.l1 k (mkB s) b (i : Int) (n : Int) (j : Int)) r := by
  induction d with
  | zero =>
    intro j n b hj hn hb h
    refine Ev.step (fun k => by rw [knapsackref03_Sum.l1]) ?_
    refine Base.Ev.ite_neg (by omega) ?_
    rw [w64 (by omega) (by omega), show (i : Int) + 1 = ((i + 1 : Nat) : Int) by omega]
    simpa [bitsN] using h
  | succ d ih =>
    intro j n b hj hn hb h
    refine Ev.step (fun k => by rw [knapsackref03_Sum.l1]) ?_
    refine Base.Ev.ite_pos (by omega) ?_
    refine Base.Ev.ite_pos (by omega) ?_
    rw [w64 (x := (j : Int) + 1) (by omega) (by omega), show (j : Int) + 1 = ((j + 1 : Nat) : Int) by omega, show (2 : Int) = ((2 : Nat) : Int) from rfl, tmod_nat, tdiv_nat,
      show ((n / 2 : Nat) : Int) % 256 = ((n / 2 : Nat) : Int) by omega]
    have e : (((n % 2 : Nat) : Int) == 1) = (n % 2 == 1) := by rw [Bool.eq_iff_iff]; simp; omega
    rw [e]
    exact ih (j + 1) (n / 2) _ (by omega) (by omega) (by simp; omega) (by simpa [bitsN] using h)
theorem rs_l0 (s : List UInt8) (hs : s.length ≤ 400) (r : Int) (h : Ev (fun k => knapsackref03_Sum.l2 k (msg s ++ List.replicate 32 false) 0) r) (d : Nat) : ∀ i : Nat, i + d = s.length →
    Ev (fun k => knapsackref03_Sum.l0 k (mkB s) (msg (s.take i)) (i : Int)) r := by
  induction d with
  | zero =>
    intro i hi
    refine Ev.step (fun k => by rw [knapsackref03_Sum.l0]) ?_
    refine Base.Ev.ite_neg (by rw [mkB_size]; omega) ?_
    have := msg_length (s.take i)
    rw [List.length_take] at this
    refine Base.Ev.ite_pos (by omega) ?_
    rw [List.take_of_length_le (by omega)]; exact h
  | succ d ih =>
    intro i hi
    have hil : i < s.length := by omega
    have hm := msg_length (s.take i)
    rw [List.length_take] at hm
    refine Ev.step (fun k => by rw [knapsackref03_Sum.l0]) ?_
    refine Base.Ev.ite_pos (by rw [mkB_size]; omega) ?_
    refine Base.Ev.ite_pos (by omega) ?_
    rw [mkB_bt s i hil]
    refine rs_l1 s i (by omega) r 8 0 _ _ (by omega) (by exact (s[i]).toNat_lt) (by omega) ?_
    have := ih (i + 1) (by omega)
    rw [List.take_succ_eq_append_getElem hil, msg_snoc] at this
    exact this
theorem rsum_ev (s : List UInt8) (hs : s.length ≤ 400) : Ev (fun k => knapsackref03_Sum.f k (mkB s)) (((crc s).toNat : Nat) : Int) := by
  have hm := msg_length s
  unfold knapsackref03_Sum.f
  refine rs_l0 s hs _ ?_ s.length 0 (by omega)
  have hI : Is (msg s ++ List.replicate 32 false) ((msg s).length + 32) (fun q => (msg s ++ List.replicate 32 false).getD q false) := ⟨by simp, fun q _ => rfl⟩
  refine rs_l2 ((msg s).length + 32) (by omega) (by omega) _ 32 0 _ _ (by omega) hI ?_
  intro b' hb'
  have key := rs_l3 (fun q => (msg s ++ List.replicate 32 false).getD q false) (msg s).length (by omega) (by
    intro j hj
    show (msg s ++ List.replicate 32 false).getD ((msg s).length + j) false = false
    generalize hz : 32 = z at hj ⊢
    rw [List.getD_eq_getElem?_getD, List.getElem?_append_right (by omega), List.getElem?_replicate]
    split <;> rfl) (msg s).length 0 b' _ (BitVec.allOnes 32) (by omega) hb' (by
    refine ⟨fun j hj => ?_, fun q hq => ?_⟩
    · have : (BitVec.allOnes 32).getLsbD j = true := by rw [BitVec.getLsbD_allOnes]; simp [hj]
      rw [this]
      simp only [Nat.zero_add]
      rw [if_pos ⟨Nat.zero_le _, hj⟩]; simp
    · show (if 0 ≤ q ∧ q < 32 then _ else _) = _
      rw [if_neg (by omega)])
  have e : ((List.range (msg s).length).map fun j => (msg s ++ List.replicate 32 false).getD (0 + j) false) = msg s := by
    apply List.ext_getElem
    · simp
    · intro i h1 h2
      simp only [List.getElem_map, List.getElem_range, Nat.zero_add]
      rw [List.getD_eq_getElem?_getD, List.getElem?_append_left h2, List.getElem?_eq_getElem h2]; rfl
  rw [e, brun_msg] at key
  exact key
theorem rle4_str (n : Nat) (h : n < 4294967296) : strOfNums [Int.tmod (n : Int) 256 % 256, (Int.tdiv (n : Int) 256 % 4294967296) % 256, (Int.tdiv (n : Int) 65536 % 4294967296) % 256, (Int.tdiv (n : Int) 16777216 % 4294967296) % 256] = mkB (le4 n) := by
  rw [show (256 : Int) = ((256 : Nat) : Int) from rfl, show (65536 : Int) = ((65536 : Nat) : Int) from rfl, show (16777216 : Int) = ((16777216 : Nat) : Int) from rfl, tmod_nat, tdiv_nat, tdiv_nat, tdiv_nat, ← le4_str n h]
  congr 1
  simp only [List.cons.injEq, and_true]
  refine ⟨?_, ?_, ?_, ?_⟩ <;> omega
theorem rseal_ev (l : List UInt8) (hl : l.length ≤ 400) : Ev (fun k => knapsackref03_Seal.f k (mkB l)) (mkB (seal_ l)) := by
  unfold knapsackref03_Seal.f
  refine Ev.bind (rsum_ev l hl) ?_
  refine Base.Ev.pure_bind ?_
  have h := (crc l).isLt
  refine Base.Ev.ite_pos (by rw [rle4_str _ (by omega), mkB_size, mkB_size]; simp [le4]; omega) ?_
  rw [rle4_str _ (by omega), mkB_append]
  exact Ev.now _
end Go.Proofs.Ytnmnplbjhejejaa.Cr
