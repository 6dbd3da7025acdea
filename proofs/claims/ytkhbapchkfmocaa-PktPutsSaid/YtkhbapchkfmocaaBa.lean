/- What band's Put and Get, and the reference's, come to: plain lists. -/
import Derived.Test.YtkhbapchkfmocaaBase
import Derived.Test.YtkhbapchkfmocaaPAx4
set_option linter.unusedVariables false
set_option linter.unusedSimpArgs false
namespace Go.Proofs.Ytkhbapchkfmocaa.Ba
open Go.RowKit Go.Proofs.YtkhbapchkfmocaaW.PrintWords Go.Proofs.YtkhbapchkfmocaaW.PrintLast Go.Proofs.YtkhbapchkfmocaaW.PrintMore Go.Proofs.Ytkhbapchkfmocaa.PA Go.Proofs.Ytkhbapchkfmocaa.Base

theorem rd34 (l : List S34) (i : Nat) (h : i < l.length) : rd_T34 l (i : Int) = l[i] := by
  unfold rd_T34
  rw [Int.toNat_natCast, List.getD_eq_getElem?_getD, List.getElem?_eq_getElem h]; rfl
theorem rd50 (l : List S50) (i : Nat) (h : i < l.length) : rd_T50 l (i : Int) = l[i] := by
  unfold rd_T50
  rw [Int.toNat_natCast, List.getD_eq_getElem?_getD, List.getElem?_eq_getElem h]; rfl
def to50 (x : S34) : S50 := ⟨x.f0, x.f1⟩

/-! ### lines as the document's; equal lists -/
theorem as_l0 (l : List S34) (hl : l.length < 5864062014805) (d : Nat) : ∀ i : Nat, i + d = l.length → Ev (fun k => knapsacklaw07_As.l0 k l ((l.take i).map to50) (i : Int)) (l.map to50) := by
  induction d with
  | zero =>
    intro i hi
    refine Ev.step (fun k => by rw [knapsacklaw07_As.l0]) ?_
    refine Base.Ev.ite_neg (by omega) ?_
    rw [List.take_of_length_le (by omega)]; exact Ev.now _
  | succ d ih =>
    intro i hi
    have hil : i < l.length := by omega
    refine Ev.step (fun k => by rw [knapsacklaw07_As.l0]) ?_
    refine Base.Ev.ite_pos (by omega) ?_
    refine Base.Ev.ite_pos (by omega) ?_
    refine Base.Ev.ite_pos (by simp; omega) ?_
    rw [w64 (by omega) (by omega), show (i : Int) + 1 = ((i + 1 : Nat) : Int) by omega]
    have := ih (i + 1) (by omega)
    rw [List.take_succ_eq_append_getElem hil, List.map_append] at this
    rw [rd34 l i hil]
    exact this
theorem as_ev (l : List S34) (hl : l.length < 5864062014805) : Ev (fun k => knapsacklaw07_As.f k l) (l.map to50) := as_l0 l hl l.length 0 (by omega)
theorem same_l0 (l : List S50) (hl : l.length < 9223372036854775000) (d : Nat) : ∀ i : Nat, i + d = l.length → Ev (fun k => knapsacklaw07_Same.l0 k l l (i : Int)) 1 := by
  induction d with
  | zero =>
    intro i hi
    refine Ev.step (fun k => by rw [knapsacklaw07_Same.l0]) ?_
    exact Base.Ev.ite_neg (by omega) (Ev.now _)
  | succ d ih =>
    intro i hi
    refine Ev.step (fun k => by rw [knapsacklaw07_Same.l0]) ?_
    refine Base.Ev.ite_pos (by omega) ?_
    refine Base.Ev.ite_pos (by omega) ?_
    refine Base.Ev.ite_pos (by omega) ?_
    refine Base.Ev.ite_neg (by simp) ?_
    rw [w64 (by omega) (by omega), show (i : Int) + 1 = ((i + 1 : Nat) : Int) by omega]
    exact ih (i + 1) (by omega)
theorem same_ev (l : List S50) (hl : l.length < 9223372036854775000) : Ev (fun k => knapsacklaw07_Same.f k l l) 1 := by
  unfold knapsacklaw07_Same.f
  exact Base.Ev.ite_pos rfl (same_l0 l hl l.length 0 (by omega))

/-! ### pieces -/
def chunk (n : Nat) (l : List UInt8) : List (List UInt8) := if h : l = [] ∨ n = 0 then [] else l.take n :: chunk n (l.drop n)
termination_by l.length
decreasing_by
  have : l.length ≠ 0 := fun e => h (.inl (List.length_eq_zero_iff.1 e))
  simp; omega
theorem chunk_nil (n : Nat) : chunk n [] = [] := by rw [chunk, dif_pos (.inl rfl)]
theorem chunk_cons {n : Nat} {l : List UInt8} (hn : n ≠ 0) (hl : l ≠ []) : chunk n l = l.take n :: chunk n (l.drop n) := by
  rw [chunk, dif_neg (by simp [hn, hl])]
theorem chunk_length (n : Nat) (hn : n ≠ 0) : ∀ (m : Nat) (l : List UInt8), l.length ≤ m → (chunk n l).length ≤ l.length := by
  intro m
  induction m with
  | zero => intro l h; rw [List.length_eq_zero_iff.1 (by omega : l.length = 0), chunk_nil]; simp
  | succ m ih =>
    intro l h
    by_cases hl : l = []
    · rw [hl, chunk_nil]; simp
    · have := List.length_pos_iff.2 hl
      rw [chunk_cons hn hl, List.length_cons]
      have := ih (l.drop n) (by simp; omega)
      simp at this
      omega
theorem chunk_mem (n : Nat) (hn : n ≠ 0) : ∀ (m : Nat) (l : List UInt8), l.length ≤ m → ∀ p ∈ chunk n l, 1 ≤ p.length ∧ p.length ≤ n := by
  intro m
  induction m with
  | zero => intro l h p hp; rw [List.length_eq_zero_iff.1 (by omega : l.length = 0), chunk_nil] at hp; simp at hp
  | succ m ih =>
    intro l h p hp
    by_cases hl : l = []
    · rw [hl, chunk_nil] at hp; simp at hp
    · have := List.length_pos_iff.2 hl
      rw [chunk_cons hn hl] at hp
      rcases List.mem_cons.1 hp with rfl | hp
      · simp; omega
      · exact ih (l.drop n) (by simp; omega) p hp
theorem chunk_flat (n : Nat) (hn : n ≠ 0) : ∀ (m : Nat) (l : List UInt8), l.length ≤ m → (chunk n l).flatten = l := by
  intro m
  induction m with
  | zero => intro l h; rw [List.length_eq_zero_iff.1 (by omega : l.length = 0), chunk_nil]; rfl
  | succ m ih =>
    intro l h
    by_cases hl : l = []
    · rw [hl, chunk_nil]; rfl
    · have := List.length_pos_iff.2 hl
      rw [chunk_cons hn hl, List.flatten_cons, ih (l.drop n) (by simp; omega), List.take_append_drop]
def line (ch : Nat) (p : List UInt8) : S34 := ⟨0, mkB (UInt8.ofNat ch :: p)⟩
def lines (ch n : Nat) (l : List UInt8) : List S34 := (chunk n l).map (line ch)
theorem lines_length (ch n : Nat) (hn : n ≠ 0) (l : List UInt8) : (lines ch n l).length ≤ l.length := by
  have := chunk_length n hn l.length l (Nat.le_refl _)
  simpa [lines] using this

theorem head_str (ch : Nat) (h : ch < 256) : strOfNums [((ch : Int)) % 256] = mkB [UInt8.ofNat ch] := by
  rw [show (ch : Int) % 256 = (ch : Int) by omega]; exact mkB_nums [ch]
/-! ### Put -/
theorem put_l0 (ch n : Nat) (hch : ch < 256) (hn : n ≠ 0) (hn2 : n < 1000) : ∀ (m : Nat) (l : List UInt8) (acc : List S34), l.length ≤ m → acc.length + m < 1000000 →
    Ev (fun k => band_Put.l0 k (ch : Int) (mkB l) (n : Int) acc) (acc ++ lines ch n l, (0 : Int)) := by
  intro m
  induction m with
  | zero =>
    intro l acc hl hm
    rw [List.length_eq_zero_iff.1 (by omega : l.length = 0)]
    refine Ev.step (fun k => by rw [band_Put.l0]) ?_
    refine Base.Ev.ite_pos (mkB_toList _) ?_
    rw [lines, chunk_nil]; simp; exact Ev.now _
  | succ m ih =>
    intro l acc hl hm
    refine Ev.step (fun k => by rw [band_Put.l0]) ?_
    by_cases hnil : l = []
    · subst hnil
      refine Base.Ev.ite_pos (mkB_toList _) ?_
      rw [lines, chunk_nil]; simp; exact Ev.now _
    · have hp := List.length_pos_iff.2 hnil
      refine Base.Ev.ite_neg (by rw [mkB_toList]; exact hnil) ?_
      refine Base.Ev.pure_bind ?_
      have e : mn (n : Int) ((mkB l).size : Int) = ((min n l.length : Nat) : Int) := by rw [mkB_size]; unfold mn; split <;> omega
      rw [e, head_str ch hch]
      refine Base.Ev.ite_pos (by omega) ?_
      refine Base.Ev.ite_pos (by rw [mkB_size]; omega) ?_
      refine Base.Ev.ite_pos (by rw [Int.toNat_natCast, mkB_take, mkB_size, mkB_size]; simp; omega) ?_
      refine Base.Ev.ite_pos (by omega) ?_
      rw [Int.toNat_natCast, mkB_drop, mkB_take, mkB_append]
      have e1 : l.drop (min n l.length) = l.drop n := by
        by_cases h : n ≤ l.length
        · rw [Nat.min_eq_left h]
        · rw [Nat.min_eq_right (by omega), List.drop_of_length_le (Nat.le_refl _), List.drop_of_length_le (by omega)]
      have e2 : l.take (min n l.length) = l.take n := by
        by_cases h : n ≤ l.length
        · rw [Nat.min_eq_left h]
        · rw [Nat.min_eq_right (by omega), List.take_of_length_le (Nat.le_refl _), List.take_of_length_le (by omega)]
      rw [e1, e2]
      refine Base.Ev.eq ?_ (ih (l.drop n) (acc ++ [line ch (l.take n)]) (by simp; omega) (by simp; omega))
      rw [lines, lines, chunk_cons hn hnil]; simp
/-- May a stream be put? -/
def may (c n : Int) : Prop := 1 ≤ c ∧ c ≤ 3 ∧ 1 ≤ n ∧ n ≤ 999
instance (c n : Int) : Decidable (may c n) := by unfold may; infer_instance
theorem put_no (c n : Int) (s : ByteArray) (h : ¬ may c n) : Ev (fun k => band_Put.f k c s n) (([] : List S34), (1 : Int)) := by
  have j : ∀ b : Bool, b = true → Ev (fun k => band_Put.j0 k c s n b) (([] : List S34), (1 : Int)) := by
    intro b hb
    refine Ev.step (fun k => by rw [band_Put.j0]) ?_
    exact Base.Ev.ite_pos hb (Ev.now _)
  unfold band_Put.f
  unfold may at h
  by_cases h1 : c < 1
  · exact Base.Ev.ite_pos h1 (j _ rfl)
  refine Base.Ev.ite_neg h1 ?_
  by_cases h2 : c > 3
  · exact Base.Ev.ite_pos h2 (j _ rfl)
  refine Base.Ev.ite_neg h2 ?_
  by_cases h3 : n < 1
  · exact Base.Ev.ite_pos h3 (j _ rfl)
  refine Base.Ev.ite_neg h3 (j _ (by simp; omega))
theorem put_yes (ch n : Nat) (l : List UInt8) (hl : l.length ≤ 3000) (h : may (ch : Int) (n : Int)) : Ev (fun k => band_Put.f k (ch : Int) (mkB l) (n : Int)) (lines ch n l, (0 : Int)) := by
  unfold may at h
  unfold band_Put.f
  refine Base.Ev.ite_neg (by omega) ?_
  refine Base.Ev.ite_neg (by omega) ?_
  refine Base.Ev.ite_neg (by omega) ?_
  refine Ev.step (fun k => by rw [band_Put.j0]) ?_
  refine Base.Ev.ite_neg (by simp; omega) ?_
  have := put_l0 ch n (by omega) (by omega) (by omega) l.length l [] (Nat.le_refl _) (by simp; omega)
  simpa using this
theorem may_nat {c n : Int} (h : may c n) : ∃ ch m : Nat, c = (ch : Int) ∧ n = (m : Int) := ⟨c.toNat, n.toNat, by unfold may at h; omega, by unfold may at h; omega⟩

/-! ### the reference's Put -/
theorem rput_l0 (ch n : Nat) (hch : ch < 256) (hn : n ≠ 0) (hn2 : n < 1000) (s : List UInt8) (hs : s.length ≤ 3000) (d : Nat) : ∀ (i : Nat) (p : List UInt8) (acc : List S50), i + d = s.length → p.length < n → (i = s.length → p = []) → acc.length + d < 1000000 →
    Ev (fun k => knapsackref08_Put.l0 k (ch : Int) (mkB s) (n : Int) acc (mkB (UInt8.ofNat ch :: p)) (i : Int)) (acc ++ (lines ch n (p ++ s.drop i)).map to50, true) := by
  induction d with
  | zero =>
    intro i p acc hi hp h0 ha
    refine Ev.step (fun k => by rw [knapsackref08_Put.l0]) ?_
    refine Base.Ev.ite_neg (by rw [mkB_size]; omega) ?_
    rw [h0 (by omega), List.drop_of_length_le (by omega), List.append_nil, lines, chunk_nil]
    simp; exact Ev.now _
  | succ d ih =>
    intro i p acc hi hp h0 ha
    have hil : i < s.length := by omega
    have e1 : wrap64 ((i : Int) + 1) = ((i + 1 : Nat) : Int) := by rw [w64 (by omega) (by omega)]; omega
    have e2 : (mkB s).extract ((i : Int)).toNat (((i + 1 : Nat) : Int)).toNat = mkB [s[i]] := by
      rw [Int.toNat_natCast, Int.toNat_natCast, mkB_extract]
      congr 1
      rw [List.drop_eq_getElem_cons hil, show i + 1 - i = 1 by omega]; rfl
    have e3 : s.drop i = s[i] :: s.drop (i + 1) := List.drop_eq_getElem_cons hil
    refine Ev.step (fun k => by rw [knapsackref08_Put.l0]) ?_
    simp only [e1, e2, mkB_append, head_str ch hch]
    refine Base.Ev.ite_pos (by rw [mkB_size]; omega) ?_
    refine Base.Ev.ite_pos (by omega) ?_
    refine Base.Ev.ite_pos (by omega) ?_
    refine Base.Ev.ite_pos (by rw [mkB_size]; omega) ?_
    refine Base.Ev.ite_pos (by rw [mkB_size, mkB_size]; simp; omega) ?_
    have e4 : (((mkB (UInt8.ofNat ch :: p ++ [s[i]])).size : Nat) : Int) = (p.length : Int) + 2 := by rw [mkB_size]; simp; omega
    have e5 : wrap64 (1 + (n : Int)) = (n : Int) + 1 := by rw [w64 (by omega) (by omega)]; omega
    have flush : ∀ (q : List UInt8), p ++ s.drop i = (p ++ [s[i]]) ++ q → ((p ++ [s[i]]).length = n ∨ q = []) → lines ch n (p ++ s.drop i) = line ch (p ++ [s[i]]) :: lines ch n q := by
      intro q hq hor
      rw [lines, lines, chunk_cons hn (by rw [hq]; simp), hq]
      rcases hor with h | h
      · rw [← h, List.take_left, List.drop_left]; rfl
      · subst h
        rw [List.append_nil, List.take_of_length_le (by simp; omega), List.drop_of_length_le (by simp; omega), chunk_nil]; rfl
    by_cases hf : p.length + 1 = n
    · refine Base.Ev.ite_pos (by rw [e4, e5]; omega) ?_
      refine Base.Ev.ite_pos (by omega) ?_
      refine Base.Ev.eq ?_ (ih (i + 1) [] (acc ++ [to50 (line ch (p ++ [s[i]]))]) (by omega) (by simp; omega) (fun _ => rfl) (by simp; omega))
      rw [flush (s.drop (i + 1)) (by rw [e3]; simp) (.inl (by simp; omega))]; simp
    · refine Base.Ev.ite_neg (by rw [e4, e5]; omega) ?_
      by_cases hlast : i + 1 = s.length
      · refine Base.Ev.ite_pos (by rw [mkB_size, w64 (by omega) (by omega)]; omega) ?_
        refine Base.Ev.ite_pos (by omega) ?_
        refine Base.Ev.eq ?_ (ih (i + 1) [] (acc ++ [to50 (line ch (p ++ [s[i]]))]) (by omega) (by simp; omega) (fun _ => rfl) (by simp; omega))
        rw [flush (s.drop (i + 1)) (by rw [e3]; simp) (.inr (List.drop_of_length_le (by omega)))]; simp
      · refine Base.Ev.ite_neg (by rw [mkB_size, w64 (by omega) (by omega)]; omega) ?_
        refine Base.Ev.eq ?_ (ih (i + 1) (p ++ [s[i]]) acc (by omega) (by simp; omega) (fun h => by omega) (by omega))
        rw [e3]; simp
theorem rput_no (c n : Int) (s : ByteArray) (h : ¬ may c n) : Ev (fun k => knapsackref08_Put.f k c s n) (([] : List S50), false) := by
  have j : ∀ b : Bool, b = true → Ev (fun k => knapsackref08_Put.j0 k c s n b) (([] : List S50), false) := by
    intro b hb
    refine Ev.step (fun k => by rw [knapsackref08_Put.j0]) ?_
    exact Base.Ev.ite_pos hb (Ev.now _)
  unfold knapsackref08_Put.f
  unfold may at h
  by_cases h1 : c < 1
  · exact Base.Ev.ite_pos h1 (j _ rfl)
  refine Base.Ev.ite_neg h1 ?_
  by_cases h2 : c > 3
  · exact Base.Ev.ite_pos h2 (j _ rfl)
  refine Base.Ev.ite_neg h2 ?_
  by_cases h3 : n < 1
  · exact Base.Ev.ite_pos h3 (j _ rfl)
  refine Base.Ev.ite_neg h3 (j _ (by simp; omega))
theorem rput_yes (ch n : Nat) (l : List UInt8) (hl : l.length ≤ 3000) (h : may (ch : Int) (n : Int)) : Ev (fun k => knapsackref08_Put.f k (ch : Int) (mkB l) (n : Int)) ((lines ch n l).map to50, true) := by
  unfold may at h
  unfold knapsackref08_Put.f
  refine Base.Ev.ite_neg (by omega) ?_
  refine Base.Ev.ite_neg (by omega) ?_
  refine Base.Ev.ite_neg (by omega) ?_
  refine Ev.step (fun k => by rw [knapsackref08_Put.j0]) ?_
  refine Base.Ev.ite_neg (by simp; omega) ?_
  rw [head_str ch (by omega)]
  have := rput_l0 ch n (by omega) (by omega) (by omega) l hl l.length 0 [] [] (by omega) (by simp; omega) (fun _ => rfl) (by simp; omega)
  simpa using this

/-! ### Get -/
/-- May a line be one of a stream? -/
def okL (x : S34) : Prop := x.f0 = 0 ∧ 2 ≤ x.f1.size ∧ x.f1.size ≤ 1000 ∧ 1 ≤ bt x.f1 0 ∧ bt x.f1 0 ≤ 3
instance (x : S34) : Decidable (okL x) := by unfold okL; infer_instance
def strm (c : Int) : List S34 → List UInt8
  | [] => []
  | x :: l => (if bt x.f1 0 = c then x.f1.data.toList.drop 1 else []) ++ strm c l
def getS (a b c : List UInt8) (l : List S34) : ByteArray × ByteArray × Int :=
  if ∀ x ∈ l, okL x then (if c ++ strm 3 l = [] then (mkB (a ++ strm 1 l), mkB (b ++ strm 2 l), 0) else (mkB [], mkB [], 13)) else (mkB [], mkB [], 2)
theorem getS_bad (a b c : List UInt8) (x : S34) (l : List S34) (h : ¬ okL x) : getS a b c (x :: l) = (mkB [], mkB [], 2) := by
  unfold getS
  rw [if_neg]
  intro hh; exact h (hh x (by simp))
theorem getS_good (a b c : List UInt8) (x : S34) (l : List S34) (h : okL x) : getS a b c (x :: l) = getS (a ++ if bt x.f1 0 = 1 then x.f1.data.toList.drop 1 else []) (b ++ if bt x.f1 0 = 2 then x.f1.data.toList.drop 1 else []) (c ++ if bt x.f1 0 = 3 then x.f1.data.toList.drop 1 else []) l := by
  unfold getS
  have : (∀ y ∈ x :: l, okL y) ↔ ∀ y ∈ l, okL y := by simp [h]
  by_cases hh : ∀ y ∈ l, okL y
  · rw [if_pos hh, if_pos (this.2 hh)]; simp only [strm, List.append_assoc]; congr
  · rw [if_neg hh, if_neg (fun h2 => hh (this.1 h2))]
theorem getS_nil (a b c : List UInt8) : getS a b c [] = if c = [] then (mkB a, mkB b, 0) else (mkB [], mkB [], 13) := by
  unfold getS
  rw [if_pos (by simp)]
  simp only [strm, List.append_nil]
theorem get_l0 (l : List S34) (hl : l.length ≤ 1000000) (d : Nat) : ∀ (i : Nat) (a b c : List UInt8), i + d = l.length → a.length ≤ 1000 * i → b.length ≤ 1000 * i → c.length ≤ 1000 * i →
    Ev (fun k => band_Get.l0 k l (i : Int) (mkB a) (mkB b) (mkB c)) (getS a b c (l.drop i)) := by
  induction d with
  | zero =>
    intro i a b c hi ha hb hc
    refine Ev.step (fun k => by rw [band_Get.l0]) ?_
    refine Base.Ev.ite_neg (by omega) ?_
    rw [List.drop_of_length_le (by omega), getS_nil]
    by_cases h : c = []
    · rw [if_pos h]; exact Base.Ev.ite_pos (by rw [mkB_toList]; exact h) (Ev.now _)
    · rw [if_neg h]; exact Base.Ev.ite_neg (by rw [mkB_toList]; exact h) (Ev.now _)
  | succ d ih =>
    intro i a b c hi ha hb hc
    have hil : i < l.length := by omega
    rw [List.drop_eq_getElem_cons hil]
    refine Ev.step (fun k => by rw [band_Get.l0]) ?_
    simp only [rd34 l i hil]
    refine Base.Ev.ite_pos (by omega) ?_
    refine Base.Ev.ite_pos (by omega) ?_
    generalize l[i] = x
    have bad : ¬ okL x → Ev (fun _ : Nat => some ((⟨#[]⟩ : ByteArray), (⟨#[]⟩ : ByteArray), (2 : Int))) (getS a b c (x :: l.drop (i + 1))) := by
      intro h; rw [getS_bad _ _ _ _ _ h]; exact Ev.now _
    by_cases h0 : x.f0 = 0
    · refine Base.Ev.ite_pos h0 ?_
      by_cases h1 : (x.f1.size : Int) < 2
      · exact Base.Ev.ite_pos h1 (bad (by unfold okL; omega))
      refine Base.Ev.ite_neg h1 ?_
      by_cases h2 : (x.f1.size : Int) > 1000
      · exact Base.Ev.ite_pos h2 (bad (by unfold okL; omega))
      refine Base.Ev.ite_neg h2 ?_
      by_cases h3 : bt x.f1 0 < 1
      · exact Base.Ev.ite_pos h3 (bad (by unfold okL; omega))
      refine Base.Ev.ite_neg h3 ?_
      by_cases h4 : bt x.f1 0 > 3
      · exact Base.Ev.ite_pos h4 (bad (by unfold okL; omega))
      refine Base.Ev.ite_neg h4 ?_
      rw [getS_good _ _ _ _ _ (by unfold okL; omega), w64 (by omega) (by omega), show (i : Int) + 1 = ((i + 1 : Nat) : Int) by omega]
      obtain ⟨m, hm⟩ := exB x.f1
      have hsz : x.f1.size = m.length := by rw [hm, mkB_size]
      have hd : x.f1.data.toList = m := by rw [hm]; rfl
      have hx : x.f1.extract 1 x.f1.size = mkB (m.drop 1) := by rw [hm, mkB_drop]
      rw [hx, hd]
      by_cases c1 : bt x.f1 0 = 1
      · refine Base.Ev.ite_pos c1 ?_
        refine Base.Ev.ite_pos (by rw [mkB_size]; omega) ?_
        rw [mkB_append, if_pos c1, if_neg (by omega), if_neg (by omega), List.append_nil, List.append_nil]
        exact ih (i + 1) _ _ _ (by omega) (by simp; omega) (by omega) (by omega)
      refine Base.Ev.ite_neg c1 ?_
      by_cases c2 : bt x.f1 0 = 2
      · refine Base.Ev.ite_pos c2 ?_
        refine Base.Ev.ite_pos (by rw [mkB_size]; omega) ?_
        rw [mkB_append, if_neg (by omega), if_pos c2, if_neg (by omega), List.append_nil, List.append_nil]
        exact ih (i + 1) _ _ _ (by omega) (by omega) (by simp; omega) (by omega)
      refine Base.Ev.ite_neg c2 ?_
      refine Base.Ev.ite_pos (by rw [mkB_size]; omega) ?_
      rw [mkB_append, if_neg (by omega), if_neg (by omega), if_pos (by omega), List.append_nil, List.append_nil]
      exact ih (i + 1) _ _ _ (by omega) (by omega) (by omega) (by simp; omega)
    · exact Base.Ev.ite_neg h0 (bad (by unfold okL; omega))
theorem get_ev (l : List S34) (hl : l.length ≤ 1000000) : Ev (fun k => band_Get.f k l) (getS [] [] [] l) := get_l0 l hl l.length 0 [] [] [] (by omega) (by simp) (by simp) (by simp)

theorem rget_l1 (l : List S34) (hl : l.length ≤ 1000000) (hok : ∀ x ∈ l, okL x) (d : Nat) : ∀ (i : Nat) (a b : List UInt8), i + d = l.length → a.length ≤ 1000 * i → b.length ≤ 1000 * i →
    Ev (fun k => knapsackref08_Get.l1 k (l.map to50) (mkB a) (mkB b) (i : Int)) (getS a b [] (l.drop i)) := by
  induction d with
  | zero =>
    intro i a b hi ha hb
    refine Ev.step (fun k => by rw [knapsackref08_Get.l1]) ?_
    refine Base.Ev.ite_neg (by simp; omega) ?_
    rw [List.drop_of_length_le (by omega), getS_nil, if_pos rfl]
    exact Ev.now _
  | succ d ih =>
    intro i a b hi ha hb
    have hil : i < l.length := by omega
    have hx := hok l[i] (List.getElem_mem hil)
    rw [List.drop_eq_getElem_cons hil, getS_good _ _ _ _ _ hx]
    refine Ev.step (fun k => by rw [knapsackref08_Get.l1]) ?_
    simp only [rd50 (l.map to50) i (by simpa using hil), List.getElem_map, to50]
    unfold okL at hx
    generalize l[i] = x at hx ⊢
    obtain ⟨m, hm⟩ := exB x.f1
    have hsz : x.f1.size = m.length := by rw [hm, mkB_size]
    have hd : x.f1.data.toList = m := by rw [hm]; rfl
    have he : x.f1.extract 1 x.f1.size = mkB (m.drop 1) := by rw [hm, mkB_drop]
    rw [hd]
    simp only [he]
    refine Base.Ev.ite_pos (by simp; omega) ?_
    refine Base.Ev.ite_pos (by omega) ?_
    refine Base.Ev.ite_pos (by omega) ?_
    rw [w64 (by omega) (by omega), show (i : Int) + 1 = ((i + 1 : Nat) : Int) by omega]
    by_cases c1 : bt x.f1 0 = 1
    · refine Base.Ev.ite_pos c1 ?_
      refine Base.Ev.ite_pos (by omega) ?_
      refine Base.Ev.ite_pos (by rw [mkB_size, mkB_size]; simp; omega) ?_
      rw [mkB_append, if_pos c1, if_neg (by omega), if_neg (by omega), List.append_nil, List.append_nil]
      exact ih (i + 1) _ _ (by omega) (by simp; omega) (by omega)
    refine Base.Ev.ite_neg c1 ?_
    by_cases c2 : bt x.f1 0 = 2
    · refine Base.Ev.ite_pos c2 ?_
      refine Base.Ev.ite_pos (by omega) ?_
      refine Base.Ev.ite_pos (by rw [mkB_size, mkB_size]; simp; omega) ?_
      rw [mkB_append, if_neg (by omega), if_pos c2, if_neg (by omega), List.append_nil, List.append_nil]
      exact ih (i + 1) _ _ (by omega) (by omega) (by simp; omega)
    refine Base.Ev.ite_neg c2 ?_
    have e : getS (a ++ if bt x.f1 0 = 1 then m.drop 1 else []) (b ++ if bt x.f1 0 = 2 then m.drop 1 else []) ([] ++ if bt x.f1 0 = 3 then m.drop 1 else []) (l.drop (i + 1)) = (mkB [], mkB [], 13) := by
      unfold getS
      rw [if_pos (fun y hy => hok y (List.mem_of_mem_drop hy)), if_neg]
      rw [if_pos (by omega)]
      intro hh
      have := congrArg List.length hh
      simp at this
      omega
    rw [e]; exact Ev.now _
theorem rget_l0 (l : List S34) (hl : l.length ≤ 1000000) (r : ByteArray × ByteArray × Int) (hr : (∀ x ∈ l, okL x) → Ev (fun k => knapsackref08_Get.l1 k (l.map to50) (mkB []) (mkB []) 0) r) (hn : ¬ (∀ x ∈ l, okL x) → r = (mkB [], mkB [], 2)) (d : Nat) : ∀ (i : Nat), i + d = l.length → (∀ x ∈ l.take i, okL x) →
    Ev (fun k => knapsackref08_Get.l0 k (l.map to50) (i : Int)) r := by
  induction d with
  | zero =>
    intro i hi hok
    rw [List.take_of_length_le (by omega)] at hok
    refine Ev.step (fun k => by rw [knapsackref08_Get.l0]) ?_
    exact Base.Ev.ite_neg (by simp; omega) (hr hok)
  | succ d ih =>
    intro i hi hok
    have hil : i < l.length := by omega
    refine Ev.step (fun k => by rw [knapsackref08_Get.l0]) ?_
    simp only [rd50 (l.map to50) i (by simpa using hil), List.getElem_map, to50]
    refine Base.Ev.ite_pos (by simp; omega) ?_
    refine Base.Ev.ite_pos (by omega) ?_
    have next : okL l[i] → Ev (fun k => knapsackref08_Get.l0 k (l.map to50) (wrap64 ((i : Int) + 1))) r := by
      intro h
      rw [w64 (by omega) (by omega), show (i : Int) + 1 = ((i + 1 : Nat) : Int) by omega]
      refine ih (i + 1) (by omega) ?_
      rw [List.take_succ_eq_append_getElem hil]
      intro x hx
      rcases List.mem_append.1 hx with hx | hx
      · exact hok x hx
      · simp at hx; rw [hx]; exact h
    have bad : ¬ okL l[i] → Ev (fun _ : Nat => some ((⟨#[]⟩ : ByteArray), (⟨#[]⟩ : ByteArray), (2 : Int))) r := by
      intro h
      rw [hn (fun hh => h (hh _ (List.getElem_mem hil)))]; exact Ev.now _
    have j1 : ∀ b : Bool, (b = true ↔ ¬ (l[i].f0 = 0 ∧ 2 ≤ l[i].f1.size ∧ l[i].f1.size ≤ 1000)) → Ev (fun k => knapsackref08_Get.j1 k (l.map to50) (i : Int) b) r := by
      intro b hb
      refine Ev.step (fun k => by rw [knapsackref08_Get.j1]) ?_
      simp only [rd50 (l.map to50) i (by simpa using hil), List.getElem_map, to50]
      by_cases h : l[i].f0 = 0 ∧ 2 ≤ l[i].f1.size ∧ l[i].f1.size ≤ 1000
      · refine Base.Ev.ite_neg (fun hh => (hb.1 hh) h) ?_
        refine Base.Ev.ite_pos (by omega) ?_
        refine Base.Ev.ite_pos (by simp; omega) ?_
        refine Base.Ev.ite_pos (by omega) ?_
        by_cases h3 : bt l[i].f1 0 < 1
        · exact Base.Ev.ite_pos h3 (bad (by unfold okL; omega))
        refine Base.Ev.ite_neg h3 ?_
        by_cases h4 : bt l[i].f1 0 > 3
        · exact Base.Ev.ite_pos h4 (bad (by unfold okL; omega))
        exact Base.Ev.ite_neg h4 (next (by unfold okL; omega))
      · exact Base.Ev.ite_pos (hb.2 h) (bad (by unfold okL; omega))
    by_cases h0 : l[i].f0 = 0
    · refine Base.Ev.ite_pos h0 ?_
      by_cases h1 : (l[i].f1.size : Int) < 2
      · exact Base.Ev.ite_pos h1 (j1 _ (by simp; omega))
      exact Base.Ev.ite_neg h1 (j1 _ (by simp; omega))
    · exact Base.Ev.ite_neg h0 (j1 _ (by simp; omega))
theorem rget_ev (l : List S34) (hl : l.length ≤ 1000000) : Ev (fun k => knapsackref08_Get.f k (l.map to50)) (getS [] [] [] l) := by
  refine rget_l0 l hl _ ?_ ?_ l.length 0 (by omega) (by simp)
  · intro hok
    exact rget_l1 l hl hok l.length 0 [] [] (by omega) (by simp) (by simp)
  · intro hn
    unfold getS; rw [if_neg hn]

/-! ### what was put is got -/
theorem line_ok (ch : Nat) (p : List UInt8) (h1 : 1 ≤ ch) (h3 : ch ≤ 3) (hp : 1 ≤ p.length) (hp2 : p.length ≤ 999) : okL (line ch p) ∧ bt (line ch p).f1 0 = (ch : Int) := by
  have hb : bt (line ch p).f1 0 = (ch : Int) := by
    have := mkB_bt (UInt8.ofNat ch :: p) 0 (by simp)
    simp only [List.getElem_cons_zero, Base.ofNat_toNat ch (by omega)] at this
    exact this
  refine ⟨?_, hb⟩
  unfold okL
  rw [hb]
  refine ⟨rfl, ?_, ?_, by omega, by omega⟩ <;> (simp only [line, mkB_size, List.length_cons]; omega)
theorem knows_ev : Ev (fun k => knapsacklaw08_knows.f k) true := by
  unfold knapsacklaw08_knows.f
  have h1 := put_yes 1 2 [97, 98, 99] (by decide) (by decide)
  rw [show lines 1 2 [97, 98, 99] = [line 1 [97, 98], line 1 [99]] by simp [lines, chunk]] at h1
  refine Ev.bind h1 ?_
  refine Ev.bind (get_ev [⟨1, mkB []⟩] (by decide)) ?_
  refine Base.Ev.ite_pos rfl ?_
  refine Base.Ev.ite_pos (by decide) ?_
  refine Base.Ev.ite_pos (mkB_toList _) ?_
  refine Base.Ev.ite_pos (by decide) ?_
  refine Base.Ev.ite_pos (mkB_toList _) ?_
  refine Base.Ev.ite_pos rfl ?_
  rw [getS_bad _ _ _ _ _ (by unfold okL; simp)]
  exact Ev.now _
end Go.Proofs.Ytkhbapchkfmocaa.Ba
