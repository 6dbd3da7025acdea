/- What pkt's Put, Get and All, and the reference's, come to: plain lists. -/
import Derived.Test.YtkhbapchkfmocaaBa
import Derived.Test.YtkhbapchkfmocaaPAx10
set_option linter.unusedVariables false
set_option linter.unusedSimpArgs false
namespace Go.Proofs.Ytkhbapchkfmocaa.Pk
open Go.RowKit Go.Proofs.YtkhbapchkfmocaaW.PrintWords Go.Proofs.YtkhbapchkfmocaaW.PrintLast Go.Proofs.YtkhbapchkfmocaaW.PrintMore Go.Proofs.Ytkhbapchkfmocaa.PA Go.Proofs.Ytkhbapchkfmocaa.Base Go.Proofs.Ytkhbapchkfmocaa.Ba

/-! ### figures -/
theorem ofInt64 (a : Nat) (ha : a < 9223372036854775808) : (BitVec.ofInt 64 (a : Int)).toNat = a := by
  rw [BitVec.ofInt_natCast, BitVec.toNat_ofNat]; exact Nat.mod_eq_of_lt (by omega)
theorem and15 (a : Nat) (ha : a < 9223372036854775808) : Go.bits .and .i64 (a : Int) 15 = ((a % 16 : Nat) : Int) := by
  show IntKind.i64.wrap ((BitVec.ofInt 64 (a : Int) &&& BitVec.ofInt 64 ((15 : Nat) : Int)).toNat : Int) = _
  rw [BitVec.toNat_and, ofInt64 a ha, ofInt64 15 (by decide), show (15 : Nat) = 2 ^ 4 - 1 from rfl, Nat.and_two_pow_sub_one_eq_mod, IntKind.wrap_i64]
  omega
theorem or16 (a d : Nat) (ha : a < 65536) (hd : d < 16) : Go.bits .or .i64 (((a * 16 : Nat) : Int)) (d : Int) = ((a * 16 + d : Nat) : Int) := by
  show IntKind.i64.wrap ((BitVec.ofInt 64 ((a * 16 : Nat) : Int) ||| BitVec.ofInt 64 (d : Int)).toNat : Int) = _
  rw [BitVec.toNat_or, ofInt64 _ (by omega), ofInt64 _ (by omega), IntKind.wrap_i64]
  have h : (2 ^ 4) * a + d = (2 ^ 4) * a ||| d := Nat.two_pow_add_eq_or_of_lt (by omega) a
  rw [show a * 16 ||| d = a * 16 + d by rw [Nat.mul_comm a 16]; exact h.symm]
  omega
def hexd (n : Nat) : UInt8 := if n < 10 then UInt8.ofNat (48 + n) else UInt8.ofNat (87 + n)
def fig (n : Nat) : List UInt8 := [hexd (n / 4096 % 16), hexd (n / 256 % 16), hexd (n / 16 % 16), hexd (n % 16)]
def digs : List UInt8 := [48, 49, 50, 51, 52, 53, 54, 55, 56, 57, 97, 98, 99, 100, 101, 102]
theorem digs_at : ∀ d : Fin 16, bt (mkB digs) (d.val : Int) = ((hexd d.val).toNat : Int) := by decide
theorem fig_length (n : Nat) : (fig n).length = 4 := rfl
theorem figures_eq (n : Nat) (hn : n < 65536) : pkt_figures.f (n : Int) = some (mkB (fig n)) := by
  have e1 : (n : Int) / 4096 = ((n / 4096 : Nat) : Int) := by omega
  have e2 : (n : Int) / 256 = ((n / 256 : Nat) : Int) := by omega
  have e3 : (n : Int) / 16 = ((n / 16 : Nat) : Int) := by omega
  unfold pkt_figures.f
  rw [e1, e2, e3, and15 _ (by omega), and15 _ (by omega), and15 _ (by omega), and15 _ (by omega)]
  rw [if_pos (by omega), if_pos (by omega), if_pos (by omega), if_pos (by omega), if_pos (by omega), if_pos (by omega), if_pos (by omega), if_pos (by omega)]
  have h : ∀ d : Nat, d < 16 → bt (⟨#[48, 49, 50, 51, 52, 53, 54, 55, 56, 57, 97, 98, 99, 100, 101, 102]⟩ : ByteArray) (d : Int) = ((hexd d).toNat : Int) := fun d hd => digs_at ⟨d, hd⟩
  rw [h _ (Nat.mod_lt _ (by decide)), h _ (Nat.mod_lt _ (by decide)), h _ (Nat.mod_lt _ (by decide)), h _ (Nat.mod_lt _ (by decide)), strOfNums_mkB]
  simp [fig]
theorem figures_ev (n : Nat) (hn : n < 65536) : Ev (fun _ : Nat => pkt_figures.f (n : Int)) (mkB (fig n)) := by
  rw [figures_eq n hn]; exact Ev.now _
theorem rdigit_eq (d : Nat) (hd : d < 16) : knapsackref07_digit.f (d : Int) = some (mkB [hexd d]) := by
  unfold knapsackref07_digit.f hexd
  by_cases h : d < 10
  · rw [if_pos (by omega), if_pos h, w64 (by omega) (by omega), show ((48 : Int) + (d : Int)) % 256 = ((48 + d : Nat) : Int) by omega]
    exact congrArg some (mkB_nums [48 + d])
  · rw [if_neg (by omega), if_neg h, w64 (by omega) (by omega), show ((87 : Int) + (d : Int)) % 256 = ((87 + d : Nat) : Int) by omega]
    exact congrArg some (mkB_nums [87 + d])
theorem rfigures_eq (n : Nat) (hn : n < 65536) : knapsackref07_Figures.f (n : Int) = some (mkB (fig n)) := by
  unfold knapsackref07_Figures.f
  rw [show (4096 : Int) = ((4096 : Nat) : Int) from rfl, show (256 : Int) = ((256 : Nat) : Int) from rfl, show (16 : Int) = ((16 : Nat) : Int) from rfl]
  simp only [tdiv_nat]
  rw [w64 (x := ((n / 4096 : Nat) : Int)) (by omega) (by omega), w64 (x := ((n / 256 : Nat) : Int)) (by omega) (by omega), w64 (x := ((n / 16 : Nat) : Int)) (by omega) (by omega)]
  simp only [tmod_nat]
  rw [rdigit_eq _ (by omega), rdigit_eq _ (Nat.mod_lt _ (by decide)), rdigit_eq _ (Nat.mod_lt _ (by decide)), rdigit_eq _ (Nat.mod_lt _ (by decide))]
  simp only [Option.bind_some, mkB_append, mkB_size]
  rw [if_pos (by simp), if_pos (by simp), if_pos (by simp)]
  have : n / 4096 % 16 = n / 4096 := by omega
  simp [fig, this]

/-! ### a number of four figures -/
def unh (c : UInt8) : Option Nat := if 48 ≤ c.toNat ∧ c.toNat ≤ 57 then some (c.toNat - 48) else if 97 ≤ c.toNat ∧ c.toNat ≤ 102 then some (c.toNat - 87) else none
theorem index_eq : ∀ n : Fin 256, Lib.indexByte digs (UInt8.ofNat n.val) = match unh (UInt8.ofNat n.val) with | none => -1 | some d => (d : Int) := by decide +kernel
theorem index_at (c : UInt8) : strings_IndexByte.f (⟨#[48, 49, 50, 51, 52, 53, 54, 55, 56, 57, 97, 98, 99, 100, 101, 102]⟩ : ByteArray) (c.toNat : Int) = some (match unh c with | none => -1 | some d => (d : Int)) := by
  have h := index_eq ⟨c.toNat, c.toNat_lt⟩
  simp only [UInt8.ofNat_toNat] at h
  have e : strings_IndexByte.f (⟨#[48, 49, 50, 51, 52, 53, 54, 55, 56, 57, 97, 98, 99, 100, 101, 102]⟩ : ByteArray) (c.toNat : Int) = some (Lib.indexByte digs c) := by
    unfold strings_IndexByte.f
    have : ((c.toNat : Int)).toNat.toUInt8 = c := by rw [Int.toNat_natCast]; simp
    rw [this]; rfl
  rw [e, h]
theorem unh_hexd : ∀ d : Fin 16, unh (hexd d.val) = some d.val := by decide
theorem unh_lt {c : UInt8} {d : Nat} (h : unh c = some d) : d < 16 ∧ hexd d = c := by
  have key : ∀ n : Fin 256, ∀ d : Fin 16, unh (UInt8.ofNat n.val) = some d.val → hexd d.val = UInt8.ofNat n.val := by decide +kernel
  have hd : d < 16 := by
    unfold unh at h
    split at h
    · simp only [Option.some.injEq] at h; omega
    · split at h
      · simp only [Option.some.injEq] at h; omega
      · simp at h
  refine ⟨hd, ?_⟩
  have := key ⟨c.toNat, c.toNat_lt⟩ ⟨d, hd⟩
  simp only [UInt8.ofNat_toNat] at this
  exact this h
/-- The number of figures, a to begin with. -/
def numF : Nat → List UInt8 → Option Nat
  | a, [] => some a
  | a, c :: l => match unh c with | none => none | some d => numF (a * 16 + d) l
def num (l : List UInt8) : Option Nat := if l.length < 4 then none else numF 0 (l.take 4)
theorem num_fig (n : Nat) (hn : n < 65536) (r : List UInt8) : num (fig n ++ r) = some n := by
  have h : ∀ d : Nat, d < 16 → unh (hexd d) = some d := fun d hd => unh_hexd ⟨d, hd⟩
  unfold num
  rw [if_neg (by simp [fig]), List.take_append_of_le_length (by simp [fig]), List.take_of_length_le (by simp [fig])]
  simp only [fig, numF, h _ (Nat.mod_lt _ (by decide : 0 < 16)), Option.some.injEq]
  omega
theorem num_some {l : List UInt8} {n : Nat} (h : num l = some n) : n < 65536 ∧ 4 ≤ l.length ∧ l.take 4 = fig n := by
  unfold num at h
  split at h
  · simp at h
  · rename_i hl
    match l, hl with
    | [], hl => simp at hl
    | [_], hl => simp at hl
    | [_, _], hl => simp at hl
    | [_, _, _], hl => simp at hl
    | c0 :: c1 :: c2 :: c3 :: l, _ =>
      simp only [List.take_succ_cons, List.take_zero, numF] at h
      cases h0 : unh c0 with
      | none => rw [h0] at h; simp at h
      | some d0 =>
        rw [h0] at h; simp only at h
        cases h1 : unh c1 with
        | none => rw [h1] at h; simp at h
        | some d1 =>
          rw [h1] at h; simp only at h
          cases h2 : unh c2 with
          | none => rw [h2] at h; simp at h
          | some d2 =>
            rw [h2] at h; simp only at h
            cases h3 : unh c3 with
            | none => rw [h3] at h; simp at h
            | some d3 =>
              rw [h3] at h
              simp only [Option.some.injEq] at h
              obtain ⟨b0, e0⟩ := unh_lt h0
              obtain ⟨b1, e1⟩ := unh_lt h1
              obtain ⟨b2, e2⟩ := unh_lt h2
              obtain ⟨b3, e3⟩ := unh_lt h3
              subst h
              refine ⟨by omega, by simp, ?_⟩
              simp only [List.take_succ_cons, List.take_zero, fig]
              rw [show (((0 * 16 + d0) * 16 + d1) * 16 + d2) * 16 + d3 = d0 * 4096 + d1 * 256 + d2 * 16 + d3 by omega, show (d0 * 4096 + d1 * 256 + d2 * 16 + d3) / 4096 % 16 = d0 by omega, show (d0 * 4096 + d1 * 256 + d2 * 16 + d3) / 256 % 16 = d1 by omega, show (d0 * 4096 + d1 * 256 + d2 * 16 + d3) / 16 % 16 = d2 by omega, show (d0 * 4096 + d1 * 256 + d2 * 16 + d3) % 16 = d3 by omega, e0, e1, e2, e3]
def numI : Option Nat → Int
  | none => -1
  | some n => (n : Int)
theorem number_l0 (l : List UInt8) (hl : 4 ≤ l.length) (d : Nat) : ∀ (i a : Nat), i + d = 4 → a < 16 ^ i → Ev (fun k => pkt_number.l0 k (mkB l) (a : Int) (i : Int)) (numI (numF a ((l.take 4).drop i))) := by
  induction d with
  | zero =>
    intro i a hi ha
    refine Ev.step (fun k => by rw [pkt_number.l0]) ?_
    refine Base.Ev.ite_neg (by omega) ?_
    rw [List.drop_of_length_le (by simp; omega)]; exact Ev.now _
  | succ d ih =>
    intro i a hi ha
    have hil : i < l.length := by omega
    have ha2 : a < 65536 := Nat.lt_of_lt_of_le ha (Nat.pow_le_pow_right (by decide) (by omega : i ≤ 4))
    refine Ev.step (fun k => by rw [pkt_number.l0]) ?_
    refine Base.Ev.ite_pos (by omega) ?_
    refine Base.Ev.ite_pos (by omega) ?_
    refine Base.Ev.ite_pos (by rw [mkB_size]; omega) ?_
    have e : (l.take 4).drop i = l[i] :: (l.take 4).drop (i + 1) := by
      rw [List.drop_eq_getElem_cons (by simp; omega)]; simp
    rw [mkB_bt l i hil, index_at, e]
    refine Base.Ev.pure_bind ?_
    cases hu : unh l[i] with
    | none =>
      refine Base.Ev.ite_pos (by decide) ?_
      simp only [numF, hu]
      exact Ev.now _
    | some v =>
      obtain ⟨hv, _⟩ := unh_lt hu
      refine Base.Ev.ite_neg (by simp only; omega) ?_
      simp only [numF, hu]
      rw [w64 (x := (a : Int) * 16) (by omega) (by omega), show (a : Int) * 16 = ((a * 16 : Nat) : Int) by omega, or16 a v ha2 hv, w64 (by omega) (by omega), show (i : Int) + 1 = ((i + 1 : Nat) : Int) by omega]
      exact ih (i + 1) _ (by omega) (by rw [Nat.pow_succ]; omega)
theorem number_ev (l : List UInt8) : Ev (fun k => pkt_number.f k (mkB l)) (numI (num l)) := by
  unfold pkt_number.f num
  by_cases h : l.length < 4
  · refine Base.Ev.ite_pos (by rw [mkB_size]; omega) ?_
    rw [if_pos h]; exact Ev.now _
  · refine Base.Ev.ite_neg (by rw [mkB_size]; omega) ?_
    rw [if_neg h]
    have := number_l0 l (by omega) 4 0 0 rfl (by decide)
    simpa using this

/-! ### Get -/
/-- The line that bytes begin with: its kind, its load, and what stands behind it. -/
def getP (l : List UInt8) : Option (Nat × List UInt8 × List UInt8) :=
  match num l with
  | none => none
  | some n => if n = 0 then some (1, [], l.drop 4) else if n = 1 then some (2, [], l.drop 4) else if 4 ≤ n ∧ n ≤ 1004 ∧ n ≤ l.length then some (0, (l.take n).drop 4, l.drop n) else none
def gotP : Option (Nat × List UInt8 × List UInt8) → Int × ByteArray × ByteArray × Int
  | none => (0, mkB [], mkB [], 2)
  | some x => ((x.1 : Int), mkB x.2.1, mkB x.2.2, 0)
theorem mkB_mid (l : List UInt8) (a b : Nat) : (mkB l).extract a b = mkB ((l.take b).drop a) := by
  rw [mkB_extract, List.drop_take]
theorem pget_ev (l : List UInt8) (hl : l.length ≤ 9223372036854775000) : Ev (fun k => pkt_Get.f k (mkB l)) (gotP (getP l)) := by
  unfold pkt_Get.f getP
  have hn := number_ev l
  cases h : num l with
  | none =>
    rw [h] at hn
    refine Ev.bind (a := (-1 : Int)) hn ?_
    refine Base.Ev.ite_neg (by decide) ?_
    refine Base.Ev.ite_neg (by decide) ?_
    exact Base.Ev.ite_pos (by decide) (Ev.now _)
  | some n =>
    rw [h] at hn
    obtain ⟨h1, h2, h3⟩ := num_some h
    refine Ev.bind (a := (n : Int)) hn ?_
    dsimp only
    by_cases c0 : n = 0
    · refine Base.Ev.ite_pos (by omega) ?_
      refine Base.Ev.ite_pos (by rw [mkB_size]; omega) ?_
      rw [if_pos c0, mkB_drop]; exact Ev.now _
    refine Base.Ev.ite_neg (by omega) ?_
    rw [if_neg c0]
    by_cases c1 : n = 1
    · refine Base.Ev.ite_pos (by omega) ?_
      refine Base.Ev.ite_pos (by rw [mkB_size]; omega) ?_
      rw [if_pos c1, mkB_drop]; exact Ev.now _
    refine Base.Ev.ite_neg (by omega) ?_
    rw [if_neg c1]
    by_cases c2 : n < 4
    · refine Base.Ev.ite_pos (by omega) ?_
      rw [if_neg (by omega)]; exact Ev.now _
    refine Base.Ev.ite_neg (by omega) ?_
    by_cases c3 : n > 1004
    · refine Base.Ev.ite_pos (by omega) ?_
      rw [if_neg (by omega)]; exact Ev.now _
    refine Base.Ev.ite_neg (by omega) ?_
    by_cases c4 : n > l.length
    · refine Base.Ev.ite_pos (by rw [mkB_size]; omega) ?_
      rw [if_neg (by omega)]; exact Ev.now _
    refine Base.Ev.ite_neg (by rw [mkB_size]; omega) ?_
    refine Base.Ev.ite_pos (by omega) ?_
    refine Base.Ev.ite_pos (by rw [mkB_size]; omega) ?_
    refine Base.Ev.ite_pos (by omega) ?_
    rw [if_pos (by omega), Int.toNat_natCast, mkB_drop, mkB_mid]
    exact Ev.now _
theorem getP_length {l : List UInt8} {x : Nat × List UInt8 × List UInt8} (h : getP l = some x) : x.2.2.length + 4 ≤ l.length ∧ l.drop (l.length - x.2.2.length) = x.2.2 := by
  unfold getP at h
  cases hn : num l with
  | none => rw [hn] at h; simp at h
  | some n =>
    obtain ⟨h1, h2, h3⟩ := num_some hn
    rw [hn] at h
    simp only at h
    split at h
    · simp only [Option.some.injEq] at h; subst h
      simp only [List.length_drop]
      exact ⟨by omega, by congr 1; omega⟩
    · split at h
      · simp only [Option.some.injEq] at h; subst h
        simp only [List.length_drop]
        exact ⟨by omega, by congr 1; omega⟩
      · split at h
        · simp only [Option.some.injEq] at h; subst h
          simp only [List.length_drop]
          exact ⟨by omega, by congr 1; omega⟩
        · simp at h

/-! ### the reference's Get -/
def rgotP (m : Nat) : Option (Nat × List UInt8 × List UInt8) → Int × ByteArray × Int
  | none => (0, mkB [], 0)
  | some x => ((x.1 : Int), mkB x.2.1, ((m - x.2.2.length : Nat) : Int))
theorem fig_inj {n m : Nat} (hn : n < 65536) (hm : m < 65536) (h : fig n = fig m) : n = m := by
  have h1 := num_fig n hn []
  have h2 := num_fig m hm []
  rw [h, h2] at h1
  exact (Option.some.inj h1).symm
theorem num_eq {l : List UInt8} {n : Nat} (hn : n < 65536) (hl : 4 ≤ l.length) : num l = some n ↔ l.take 4 = fig n := by
  constructor
  · intro h; exact (num_some h).2.2
  · intro h
    have := num_fig n hn (l.drop 4)
    rwa [← h, List.take_append_drop] at this
theorem rget_l0 (l : List UInt8) (hl4 : 4 ≤ l.length) (hl : l.length ≤ 9223372036854775000) (h01 : num l ≠ some 0 ∧ num l ≠ some 1) (d : Nat) : ∀ m : Nat, m + d = 1005 → 4 ≤ m → (∀ q, 4 ≤ q → q < m → num l ≠ some q) →
    Ev (fun k => knapsackref07_Get.l0 k (mkB l) (m : Int)) (rgotP l.length (getP l)) := by
  have stop : ∀ m : Nat, 4 ≤ m → (∀ q, 4 ≤ q → q < m → num l ≠ some q) → (m = 1005 ∨ l.length < m) → getP l = none := by
    intro m hm hq ho
    unfold getP
    cases hn : num l with
    | none => rfl
    | some n =>
      rw [hn] at h01 hq
      simp only
      rw [if_neg (fun e => h01.1 (by rw [e])), if_neg (fun e => h01.2 (by rw [e])), if_neg]
      intro hc
      exact hq n (by omega) (by omega) rfl
  induction d with
  | zero =>
    intro m hm hm4 hq
    have e := stop m hm4 hq (.inl (by omega))
    have j2 : Ev (fun k => knapsackref07_Get.j2 k (mkB l) (m : Int) false) (rgotP l.length (getP l)) := by
      refine Ev.step (fun k => by rw [knapsackref07_Get.j2]) ?_
      refine Base.Ev.ite_neg (by simp) ?_
      rw [e]; exact Ev.now _
    refine Ev.step (fun k => by rw [knapsackref07_Get.l0]) ?_
    by_cases h : (m : Int) ≤ ((mkB l).size : Int)
    · refine Base.Ev.ite_pos h ?_
      rw [show decide ((m : Int) ≤ 1004) = false by simp; omega]; exact j2
    · exact Base.Ev.ite_neg h j2
  | succ d ih =>
    intro m hm hm4 hq
    refine Ev.step (fun k => by rw [knapsackref07_Get.l0]) ?_
    by_cases h : m ≤ l.length
    · refine Base.Ev.ite_pos (by rw [mkB_size]; omega) ?_
      rw [show decide ((m : Int) ≤ 1004) = true by simp; omega]
      refine Ev.step (fun k => by rw [knapsackref07_Get.j2]) ?_
      refine Base.Ev.ite_pos rfl ?_
      refine Base.Ev.ite_pos (by decide) ?_
      refine Base.Ev.ite_pos (by rw [mkB_size]; omega) ?_
      rw [rfigures_eq m (by omega)]
      refine Base.Ev.pure_bind ?_
      by_cases hf : l.take 4 = fig m
      · refine Base.Ev.ite_pos (by rw [mkB_take, mkB_toList, mkB_toList]; exact hf) ?_
        refine Base.Ev.ite_pos (by omega) ?_
        refine Base.Ev.ite_pos (by rw [mkB_size]; omega) ?_
        have hn := (num_eq (by omega) hl4).2 hf
        refine Base.Ev.eq ?_ (Ev.now _)
        unfold getP
        rw [hn]
        simp only
        rw [if_neg (by omega), if_neg (by omega), if_pos (by omega), Int.toNat_natCast, mkB_mid]
        show _ = ((0 : Int), mkB ((l.take m).drop 4), ((l.length - (l.drop m).length : Nat) : Int))
        simp only [Prod.mk.injEq, List.length_drop, true_and]
        omega
      · refine Base.Ev.ite_neg (by rw [mkB_take, mkB_toList, mkB_toList]; exact hf) ?_
        rw [w64 (by omega) (by omega), show (m : Int) + 1 = ((m + 1 : Nat) : Int) by omega]
        refine ih (m + 1) (by omega) (by omega) ?_
        intro q h4 h5
        by_cases e : q = m
        · subst e; intro h6; exact hf ((num_eq (by omega) hl4).1 h6)
        · exact hq q h4 (by omega)
    · refine Base.Ev.ite_neg (by rw [mkB_size]; omega) ?_
      refine Ev.step (fun k => by rw [knapsackref07_Get.j2]) ?_
      refine Base.Ev.ite_neg (by simp) ?_
      rw [stop m hm4 hq (.inr (by omega))]; exact Ev.now _
theorem rpget_ev (l : List UInt8) (hl : l.length ≤ 9223372036854775000) : Ev (fun k => knapsackref07_Get.f k (mkB l)) (rgotP l.length (getP l)) := by
  unfold knapsackref07_Get.f
  by_cases h : l.length < 4
  · refine Base.Ev.ite_pos (by rw [mkB_size]; omega) ?_
    have : getP l = none := by unfold getP num; rw [if_pos h]
    rw [this]; exact Ev.now _
  refine Base.Ev.ite_neg (by rw [mkB_size]; omega) ?_
  refine Base.Ev.ite_pos (by decide) ?_
  refine Base.Ev.ite_pos (by rw [mkB_size]; omega) ?_
  have hl4 : 4 ≤ l.length := by omega
  have f0 : fig 0 = [48, 48, 48, 48] := by decide
  have f1 : fig 1 = [48, 48, 48, 49] := by decide
  have jt : ∀ n : Nat, n ≤ 1 → l.take 4 = fig n → ∀ b : Bool, b = true → Ev (fun k => knapsackref07_Get.j0 k (mkB l) b) (rgotP l.length (getP l)) := by
    intro n hn hf b hb
    refine Ev.step (fun k => by rw [knapsackref07_Get.j0]) ?_
    refine Base.Ev.ite_pos hb ?_
    refine Base.Ev.ite_pos (by rw [mkB_size]; omega) ?_
    have h3 : l[3]'(by omega) = UInt8.ofNat (48 + n) := by
      have h4 : (l.take 4)[3]? = (fig n)[3]? := by rw [hf]
      rw [List.getElem?_take_of_lt (by omega), List.getElem?_eq_getElem (by omega)] at h4
      have h5 : (fig n)[3]? = some (hexd (n % 16)) := rfl
      rw [h5] at h4
      rw [Option.some.inj h4, hexd, if_pos (by omega)]
      congr 1; omega
    have hb3 : bt (mkB l) 3 = ((48 + n : Nat) : Int) := by
      have := mkB_bt l 3 (by omega)
      rw [h3, Base.ofNat_toNat _ (by omega)] at this
      exact this
    have hnum := (num_eq (l := l) (n := n) (by omega) hl4).2 hf
    refine Base.Ev.eq ?_ (Ev.now _)
    rw [hb3, w64 (x := ((48 + n : Nat) : Int)) (by omega) (by omega), w64 (x := 1 + ((48 + n : Nat) : Int)) (by omega) (by omega), w64 (by omega) (by omega)]
    unfold getP
    rw [hnum]
    simp only
    have c : n = 0 ∨ n = 1 := by omega
    rcases c with rfl | rfl
    · rw [if_pos rfl]; show _ = ((1 : Int), mkB [], ((l.length - (l.drop 4).length : Nat) : Int)); simp only [Prod.mk.injEq, List.length_drop]; exact ⟨by omega, rfl, by omega⟩
    · rw [if_neg (by decide), if_pos rfl]; show _ = ((2 : Int), mkB [], ((l.length - (l.drop 4).length : Nat) : Int)); simp only [Prod.mk.injEq, List.length_drop]; exact ⟨by omega, rfl, by omega⟩
  by_cases c0 : l.take 4 = [48, 48, 48, 48]
  · refine Base.Ev.ite_pos (by rw [mkB_take, mkB_toList]; exact c0) ?_
    exact jt 0 (by decide) (by rw [f0]; exact c0) true rfl
  refine Base.Ev.ite_neg (by rw [mkB_take, mkB_toList]; exact c0) ?_
  have eb : ((mkB l).extract 0 4).toList = l.take 4 := by rw [mkB_take, mkB_toList]
  rw [eb]
  by_cases c1 : l.take 4 = [48, 48, 48, 49]
  · exact jt 1 (by decide) (by rw [f1]; exact c1) _ (by simp [c1])
  refine Ev.step (fun k => by rw [knapsackref07_Get.j0]) ?_
  refine Base.Ev.ite_neg (by simp [c1]) ?_
  refine rget_l0 l hl4 hl ⟨fun h => c0 ?_, fun h => c1 ?_⟩ 1001 4 rfl (by decide) (fun q _ _ => by omega)
  · have := (num_some h).2.2; rw [f0] at this; exact this
  · have := (num_some h).2.2; rw [f1] at this; exact this

/-! ### All -/
def allF : Nat → List UInt8 → Option (List S34)
  | 0, l => if l = [] then some [] else none
  | d + 1, l => if l = [] then some [] else match getP l with | none => none | some x => (allF d x.2.2).map (fun m => ⟨(x.1 : Int), mkB x.2.1⟩ :: m)
def allsP : List S34 → Option (List S34) → List S34 × Int
  | _, none => ([], 2)
  | acc, some m => (acc ++ m, 0)
theorem all_l0 (d : Nat) : ∀ (l : List UInt8) (acc : List S34), l.length ≤ d → acc.length + d < 1000000 → Ev (fun k => pkt_All.l0 k (mkB l) acc) (allsP acc (allF d l)) := by
  induction d with
  | zero =>
    intro l acc hl ha
    rw [List.length_eq_zero_iff.1 (by omega : l.length = 0)]
    refine Ev.step (fun k => by rw [pkt_All.l0]) ?_
    refine Base.Ev.ite_pos (mkB_toList _) ?_
    simp only [allF, if_true, allsP, List.append_nil]; exact Ev.now _
  | succ d ih =>
    intro l acc hl ha
    refine Ev.step (fun k => by rw [pkt_All.l0]) ?_
    by_cases hn : l = []
    · subst hn
      refine Base.Ev.ite_pos (mkB_toList _) ?_
      simp only [allF, if_true, allsP, List.append_nil]; exact Ev.now _
    refine Base.Ev.ite_neg (by rw [mkB_toList]; exact hn) ?_
    have hg := pget_ev l (by omega)
    rw [allF, if_neg hn]
    cases hx : getP l with
    | none =>
      rw [hx] at hg
      refine Ev.bind hg ?_
      exact Base.Ev.ite_neg (by simp [gotP]) (Ev.now _)
    | some x =>
      rw [hx] at hg
      have hlen := (getP_length hx).1
      refine Ev.bind hg ?_
      refine Base.Ev.ite_pos rfl ?_
      refine Base.Ev.ite_pos (by omega) ?_
      dsimp only [gotP]
      refine Base.Ev.eq ?_ (ih x.2.2 (acc ++ [⟨(x.1 : Int), mkB x.2.1⟩]) (by omega) (by simp; omega))
      cases allF d x.2.2 with
      | none => rfl
      | some m => simp [allsP]
theorem all_ev (l : List UInt8) (hl : l.length < 1000000) : Ev (fun k => pkt_All.f k (mkB l)) (allsP [] (allF l.length l)) := all_l0 l.length l [] (Nat.le_refl _) (by simpa using hl)
def rallsP : List S50 → Option (List S34) → List S50 × Bool
  | _, none => ([], false)
  | acc, some m => (acc ++ m.map to50, true)
theorem rall_l0 (d : Nat) : ∀ (l : List UInt8) (acc : List S50), l.length ≤ d → acc.length + d < 1000000 → Ev (fun k => knapsackref07_All.l0 k (mkB l) acc) (rallsP acc (allF d l)) := by
  induction d with
  | zero =>
    intro l acc hl ha
    rw [List.length_eq_zero_iff.1 (by omega : l.length = 0)]
    refine Ev.step (fun k => by rw [knapsackref07_All.l0]) ?_
    refine Base.Ev.ite_pos (mkB_toList _) ?_
    simp only [allF, if_true, rallsP, List.map_nil, List.append_nil]; exact Ev.now _
  | succ d ih =>
    intro l acc hl ha
    refine Ev.step (fun k => by rw [knapsackref07_All.l0]) ?_
    by_cases hn : l = []
    · subst hn
      refine Base.Ev.ite_pos (mkB_toList _) ?_
      simp only [allF, if_true, rallsP, List.map_nil, List.append_nil]; exact Ev.now _
    refine Base.Ev.ite_neg (by rw [mkB_toList]; exact hn) ?_
    have hg := rpget_ev l (by omega)
    rw [allF, if_neg hn]
    cases hx : getP l with
    | none =>
      rw [hx] at hg
      refine Ev.bind hg ?_
      exact Base.Ev.ite_pos rfl (Ev.now _)
    | some x =>
      rw [hx] at hg
      obtain ⟨hlen, hdr⟩ := getP_length hx
      refine Ev.bind hg ?_
      refine Base.Ev.ite_neg (by simp only [rgotP]; omega) ?_
      refine Base.Ev.ite_pos (by omega) ?_
      refine Base.Ev.ite_pos (by simp only [rgotP]; omega) ?_
      refine Base.Ev.ite_pos (by simp only [rgotP, mkB_size]; omega) ?_
      simp only [rgotP, Int.toNat_natCast, mkB_drop, hdr]
      refine Base.Ev.eq ?_ (ih x.2.2 (acc ++ [to50 ⟨(x.1 : Int), mkB x.2.1⟩]) (by omega) (by simp; omega))
      cases allF d x.2.2 with
      | none => rfl
      | some m => simp [rallsP]
theorem rall_ev (l : List UInt8) (hl : l.length < 1000000) : Ev (fun k => knapsackref07_All.f k (mkB l)) (rallsP [] (allF l.length l)) := rall_l0 l.length l [] (Nat.le_refl _) (by simpa using hl)

/-! ### Put -/
def fineP (x : S34) : Prop := (x.f0 = 0 ∧ x.f1.size ≤ 1000) ∨ ((x.f0 = 1 ∨ x.f0 = 2) ∧ x.f1.size = 0)
instance (x : S34) : Decidable (fineP x) := by unfold fineP; infer_instance
def byt (x : S34) : List UInt8 := if x.f0 = 0 then fig (4 + x.f1.size) ++ x.f1.data.toList else fig (x.f0 - 1).toNat
def puts : List S34 → Option (List UInt8)
  | [] => some []
  | x :: l => if fineP x then (puts l).map (byt x ++ ·) else none
theorem byt_length (x : S34) (h : fineP x) : (byt x).length ≤ 1004 := by
  unfold byt
  unfold fineP at h
  split
  · rw [List.length_append, fig_length]
    have : x.f1.data.toList.length = x.f1.size := by rw [Array.length_toList]; rfl
    omega
  · rw [fig_length]; omega
def putsP (a : List UInt8) : Option (List UInt8) → ByteArray × Int
  | none => (mkB [], 1)
  | some s => (mkB (a ++ s), 0)
theorem size0 (m : List UInt8) : m = [] ↔ (mkB m).size = 0 := by rw [mkB_size]; exact List.length_eq_zero_iff.symm
theorem pput_l0 (l : List S34) (hl : l.length ≤ 1000000) (d : Nat) : ∀ (i : Nat) (a : List UInt8), i + d = l.length → a.length ≤ 1004 * i → Ev (fun k => pkt_Put.l0 k (mkB a) l (l.length : Int) (i : Int)) (putsP a (puts (l.drop i))) := by
  induction d with
  | zero =>
    intro i a hi ha
    refine Ev.step (fun k => by rw [pkt_Put.l0]) ?_
    refine Base.Ev.ite_neg (by omega) ?_
    rw [List.drop_of_length_le (by omega)]
    simp only [puts, putsP, List.append_nil]; exact Ev.now _
  | succ d ih =>
    intro i a hi ha
    have hil : i < l.length := by omega
    rw [List.drop_eq_getElem_cons hil]
    refine Ev.step (fun k => by rw [pkt_Put.l0]) ?_
    simp only [rd34 l i hil]
    refine Base.Ev.ite_pos (by omega) ?_
    refine Base.Ev.ite_pos (by omega) ?_
    refine Base.Ev.ite_pos (by omega) ?_
    have next := fun (x : S34) (hx : fineP x) => ih (i + 1) (a ++ byt x) (by omega) (by have := byt_length x hx; simp; omega)
    generalize l[i] = x
    obtain ⟨m, hm⟩ := exB x.f1
    have hd : x.f1.data.toList = m := by rw [hm]; rfl
    have hsz : x.f1.size = m.length := by rw [hm, mkB_size]
    have go : fineP x → Ev (fun k => pkt_Put.l0 k (mkB (a ++ byt x)) l (l.length : Int) (wrap64 ((i : Int) + 1))) (putsP a (puts (x :: l.drop (i + 1)))) := by
      intro hx
      rw [w64 (by omega) (by omega), show (i : Int) + 1 = ((i + 1 : Nat) : Int) by omega]
      refine Base.Ev.eq ?_ (next x hx)
      rw [puts, if_pos hx]
      cases puts (l.drop (i + 1)) with
      | none => rfl
      | some s => simp [putsP]
    have bad : ¬ fineP x → Ev (fun _ : Nat => some ((⟨#[]⟩ : ByteArray), (1 : Int))) (putsP a (puts (x :: l.drop (i + 1)))) := by
      intro hx
      rw [puts, if_neg hx]; exact Ev.now _
    have j2 : ∀ b : Bool, x.f0 ≠ 0 ∨ ¬ x.f1.size ≤ 1000 → (b = true ↔ (x.f0 = 1 ∧ x.f1.size = 0)) → Ev (fun k => pkt_Put.j2 k (mkB a) l (l.length : Int) (i : Int) b x.f0 x.f1) (putsP a (puts (x :: l.drop (i + 1)))) := by
      intro b hno hb
      refine Ev.step (fun k => by rw [pkt_Put.j2]) ?_
      by_cases h1 : x.f0 = 1 ∧ x.f1.size = 0
      · refine Base.Ev.ite_pos (hb.2 h1) ?_
        have hx : fineP x := .inr ⟨.inl h1.1, h1.2⟩
        have e : byt x = fig 0 := by unfold byt; rw [if_neg (by omega), h1.1]; rfl
        rw [show (0 : Int) = ((0 : Nat) : Int) from rfl, figures_eq 0 (by decide)]
        refine Base.Ev.pure_bind ?_
        refine Base.Ev.ite_pos (by rw [mkB_size, mkB_size, fig_length]; omega) ?_
        rw [mkB_append, ← e]; exact go hx
      · refine Base.Ev.ite_neg (fun h => h1 (hb.1 h)) ?_
        by_cases h2 : x.f0 = 2
        · refine Base.Ev.ite_pos h2 ?_
          by_cases h3 : x.f1.size = 0
          · refine Base.Ev.ite_pos (by rw [hm, mkB_toList]; exact List.length_eq_zero_iff.1 (by omega)) ?_
            have hx : fineP x := .inr ⟨.inr h2, h3⟩
            have e : byt x = fig 1 := by unfold byt; rw [if_neg (by omega), h2]; rfl
            rw [show (1 : Int) = ((1 : Nat) : Int) from rfl, figures_eq 1 (by decide)]
            refine Base.Ev.pure_bind ?_
            refine Base.Ev.ite_pos (by rw [mkB_size, mkB_size, fig_length]; omega) ?_
            rw [mkB_append, ← e]; exact go hx
          · refine Base.Ev.ite_neg (by rw [hm, mkB_toList]; intro h; exact h3 (by rw [hsz, h]; rfl)) ?_
            exact bad (by unfold fineP; omega)
        · refine Base.Ev.ite_neg h2 ?_
          exact bad (by unfold fineP; omega)
    have j1 : ∀ b : Bool, (b = true ↔ (x.f0 = 0 ∧ x.f1.size ≤ 1000)) → Ev (fun k => pkt_Put.j1 k (mkB a) l (l.length : Int) (i : Int) b x.f0 x.f1) (putsP a (puts (x :: l.drop (i + 1)))) := by
      intro b hb
      refine Ev.step (fun k => by rw [pkt_Put.j1]) ?_
      by_cases h0 : x.f0 = 0 ∧ x.f1.size ≤ 1000
      · refine Base.Ev.ite_pos (hb.2 h0) ?_
        have hx : fineP x := .inl h0
        have e : byt x = fig (4 + m.length) ++ m := by unfold byt; rw [if_pos h0.1, hsz, hd]
        have e2 : wrap64 (4 + (x.f1.size : Int)) = ((4 + m.length : Nat) : Int) := by rw [hsz, w64 (by omega) (by omega)]; omega
        rw [e2, figures_eq _ (by omega)]
        refine Base.Ev.pure_bind ?_
        refine Base.Ev.ite_pos (by rw [mkB_size, fig_length]; omega) ?_
        rw [hm, mkB_append]
        refine Base.Ev.ite_pos (by rw [mkB_size, mkB_size, List.length_append, fig_length]; omega) ?_
        rw [mkB_append, ← e]; exact go hx
      · refine Base.Ev.ite_neg (fun h => h0 (hb.1 h)) ?_
        by_cases h1 : x.f0 = 1
        · refine Base.Ev.ite_pos h1 ?_
          exact j2 _ (by omega) (by rw [hm, mkB_toList, beq_iff_eq, mkB_size, ← List.length_eq_zero_iff]; exact ⟨fun h => ⟨h1, h⟩, fun h => h.2⟩)
        · refine Base.Ev.ite_neg h1 ?_
          exact j2 _ (by omega) (by simp; omega)
    by_cases h0 : x.f0 = 0
    · refine Base.Ev.ite_pos h0 ?_
      exact j1 _ (by simp [h0]; try omega)
    · refine Base.Ev.ite_neg h0 ?_
      exact j1 _ (by simp [h0])
theorem pput_ev (l : List S34) (hl : l.length ≤ 1000000) : Ev (fun k => pkt_Put.f k l) (putsP [] (puts l)) := by
  have := pput_l0 l hl l.length 0 [] (by omega) (by simp)
  rw [List.drop_zero] at this
  exact this
def rputsP (a : List UInt8) : Option (List UInt8) → ByteArray × Bool
  | none => (mkB [], false)
  | some s => (mkB (a ++ s), true)
theorem rfine_eq (x : S34) : knapsackref07_Fine.f x.f0 x.f1 = some (decide (fineP x)) := by
  obtain ⟨m, hm⟩ := exB x.f1
  have hsz : x.f1.size = m.length := by rw [hm, mkB_size]
  unfold knapsackref07_Fine.f
  have e : x.f1.toList = m := by rw [hm, mkB_toList]
  rw [e]
  have e2 : (m == ([] : List UInt8)) = decide (x.f1.size = 0) := by rw [Bool.eq_iff_iff, beq_iff_eq, decide_eq_true_iff, hsz]; exact List.length_eq_zero_iff.symm
  rw [e2]
  by_cases h0 : x.f0 = 0
  · rw [if_pos h0]
    by_cases h1 : x.f1.size ≤ 1000
    · rw [if_pos (by omega)]; simp [fineP, h0, h1]
    · rw [if_neg (by omega), if_neg (by omega), if_neg (by omega)]; simp [fineP, h0, h1]
  · rw [if_neg h0]
    by_cases h1 : x.f0 = 1
    · rw [if_pos h1]; simp [fineP, h1]
    · rw [if_neg h1]
      by_cases h2 : x.f0 = 2
      · rw [if_pos h2]; simp [fineP, h2]
      · rw [if_neg h2]; simp [fineP, h0, h1, h2]
theorem rbytes_eq (x : S34) (h : fineP x) : knapsackref07_Bytes.f x.f0 x.f1 = some (mkB (byt x)) := by
  obtain ⟨m, hm⟩ := exB x.f1
  have hd : x.f1.data.toList = m := by rw [hm]; rfl
  have hsz : x.f1.size = m.length := by rw [hm, mkB_size]
  unfold knapsackref07_Bytes.f byt
  unfold fineP at h
  by_cases h0 : x.f0 = 0
  · rw [if_pos h0, if_pos h0, hsz, hd]
    rw [w64 (by omega) (by omega), show (4 : Int) + (m.length : Int) = ((4 + m.length : Nat) : Int) by omega, rfigures_eq _ (by omega)]
    simp only [Option.bind_some]
    rw [hm, mkB_append, if_pos (by simp only [mkB_size, fig_length]; omega)]
  · rw [if_neg h0, if_neg h0, w64 (by omega) (by omega), show x.f0 - 1 = (((x.f0 - 1).toNat : Nat) : Int) by omega, rfigures_eq _ (by omega)]
    simp only [Option.bind_some, Int.toNat_natCast]
theorem rpput_l0 (l : List S34) (hl : l.length ≤ 1000000) (d : Nat) : ∀ (i : Nat) (a : List UInt8), i + d = l.length → a.length ≤ 1004 * i → Ev (fun k => knapsackref07_Put.l0 k (l.map to50) (mkB a) (i : Int)) (rputsP a (puts (l.drop i))) := by
  induction d with
  | zero =>
    intro i a hi ha
    refine Ev.step (fun k => by rw [knapsackref07_Put.l0]) ?_
    refine Base.Ev.ite_neg (by simp; omega) ?_
    rw [List.drop_of_length_le (by omega)]
    simp only [puts, rputsP, List.append_nil]; exact Ev.now _
  | succ d ih =>
    intro i a hi ha
    have hil : i < l.length := by omega
    rw [List.drop_eq_getElem_cons hil]
    refine Ev.step (fun k => by rw [knapsackref07_Put.l0]) ?_
    simp only [rd50 (l.map to50) i (by simpa using hil), List.getElem_map, to50, rfine_eq]
    refine Base.Ev.ite_pos (by simp; omega) ?_
    refine Base.Ev.ite_pos (by omega) ?_
    refine Base.Ev.pure_bind ?_
    by_cases hx : fineP l[i]
    · refine Base.Ev.ite_pos (by simp [hx]) ?_
      have hb := byt_length _ hx
      rw [rbytes_eq _ hx]
      refine Base.Ev.pure_bind ?_
      refine Base.Ev.ite_pos (by rw [mkB_size, mkB_size]; omega) ?_
      rw [mkB_append, w64 (by omega) (by omega), show (i : Int) + 1 = ((i + 1 : Nat) : Int) by omega]
      refine Base.Ev.eq ?_ (ih (i + 1) (a ++ byt l[i]) (by omega) (by simp; omega))
      rw [puts, if_pos hx]
      cases puts (l.drop (i + 1)) with
      | none => rfl
      | some s => simp [rputsP]
    · refine Base.Ev.ite_neg (by simp [hx]) ?_
      rw [puts, if_neg hx]; exact Ev.now _
theorem rpput_ev (l : List S34) (hl : l.length ≤ 1000000) : Ev (fun k => knapsackref07_Put.f k (l.map to50)) (rputsP [] (puts l)) := by
  have := rpput_l0 l hl l.length 0 [] (by omega) (by simp)
  rw [List.drop_zero] at this
  exact this

/-! ### few; the document's rows -/
def fewB : Nat → List S34 → Bool
  | 0, _ => true
  | _, [] => true
  | d + 1, x :: l => if x.f1.size > 1100 then false else fewB d l
theorem few_l0 (l : List S34) (hl : l.length ≤ 9223372036854775807) (d : Nat) : ∀ i : Nat, i + d = 30 → Ev (fun k => knapsacklaw07_few.l0 k l (i : Int)) (fewB d (l.drop i) && decide (l.length ≤ 30)) := by
  have fin : ∀ i : Nat, Ev (fun k => knapsacklaw07_few.j1 k l (i : Int) false) (decide (l.length ≤ 30)) := by
    intro i
    refine Ev.step (fun k => by rw [knapsacklaw07_few.j1]) ?_
    refine Base.Ev.ite_neg (by simp) (Base.Ev.eq ?_ (Ev.now _))
    rw [Bool.eq_iff_iff]; simp; omega
  induction d with
  | zero =>
    intro i hi
    refine Ev.step (fun k => by rw [knapsacklaw07_few.l0]) ?_
    have e : fewB 0 (l.drop i) = true := by cases l.drop i <;> rfl
    rw [e, Bool.true_and]
    by_cases h : (i : Int) < (l.length : Int)
    · refine Base.Ev.ite_pos h ?_
      rw [show decide ((i : Int) < 30) = false by simp; omega]; exact fin i
    · exact Base.Ev.ite_neg h (fin i)
  | succ d ih =>
    intro i hi
    refine Ev.step (fun k => by rw [knapsacklaw07_few.l0]) ?_
    by_cases h : i < l.length
    · refine Base.Ev.ite_pos (by omega) ?_
      rw [show decide ((i : Int) < 30) = true by simp; omega, List.drop_eq_getElem_cons h, fewB]
      refine Ev.step (fun k => by rw [knapsacklaw07_few.j1]) ?_
      simp only [rd34 l i h]
      refine Base.Ev.ite_pos (by simp) ?_
      refine Base.Ev.ite_pos (by omega) ?_
      refine Base.Ev.ite_pos (by omega) ?_
      by_cases hs : l[i].f1.size > 1100
      · refine Base.Ev.ite_pos (by omega) ?_
        rw [if_pos hs]; exact Ev.now _
      · refine Base.Ev.ite_neg (by omega) ?_
        rw [if_neg hs, w64 (by omega) (by omega), show (i : Int) + 1 = ((i + 1 : Nat) : Int) by omega]
        exact ih (i + 1) (by omega)
    · refine Base.Ev.ite_neg (by omega) ?_
      rw [List.drop_of_length_le (by omega)]
      exact fin i
theorem few_ev (l : List S34) (hl : l.length ≤ 9223372036854775807) : Ev (fun k => knapsacklaw07_few.f k l) (fewB 30 l && decide (l.length ≤ 30)) := by
  have := few_l0 l hl 30 0 rfl
  unfold knapsacklaw07_few.f
  simpa using this
theorem knows_ev : Ev (fun k => knapsacklaw07_knows.f k) true := by
  unfold knapsacklaw07_knows.f
  refine Ev.bind (pput_ev [⟨0, mkB [104, 105]⟩, ⟨1, mkB []⟩] (by decide)) ?_
  refine Ev.bind (pget_ev [48, 48, 48, 51] (by decide)) ?_
  refine Ev.bind (pget_ev [48, 48, 48, 54, 104] (by decide)) ?_
  have e : puts [⟨0, mkB [104, 105]⟩, ⟨1, mkB []⟩] = some [48, 48, 48, 54, 104, 105, 48, 48, 48, 48] := by decide
  rw [e]
  refine Base.Ev.ite_pos (mkB_toList _) ?_
  refine Base.Ev.ite_pos rfl ?_
  refine Base.Ev.ite_pos (by decide) ?_
  refine Base.Ev.ite_pos (by decide) ?_
  exact Ev.now _
end Go.Proofs.Ytkhbapchkfmocaa.Pk
