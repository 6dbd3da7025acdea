/- Refs in plain Lean: updates that all hold come to the same in the other order. -/
import Derived.Test.YtklbemgepeleoaaRp1
set_option linter.unusedVariables false
set_option linter.unusedSimpArgs false
namespace Go.Proofs.Ytklbemgepeleoaa.Rf
open Go.RowKit
theorem idE_cons (y : RefE) (l : List RefE) (n : ByteArray) : idE (y :: l) n = if eqB y.1 n = true then y.2 else idE l n := by
  unfold idE posE
  rw [List.findIdx_cons]
  cases eqB y.1 n <;> simp
theorem idE_nil (n : ByteArray) : idE [] n = id0 := rfl
theorem idE_absent {l : List RefE} {n : ByteArray} (h : ∀ z ∈ l, eqB z.1 n = false) : idE l n = id0 := by
  induction l with
  | nil => rfl
  | cons y l ih =>
    rw [idE_cons, h y (by simp), if_neg (by simp)]
    exact ih fun z hz => h z (by simp [hz])
theorem eqB_self (a : ByteArray) : eqB a a = true := (eqB_iff _ _).mpr rfl
theorem eqB_ne {a b : ByteArray} (h : a ≠ b) : eqB a b = false := by
  cases he : eqB a b with
  | false => rfl
  | true => exact absurd ((eqB_iff _ _).mp he) h
theorem idE_ins {l : List RefE} (nm : ByteArray) (x : List Int) (h : Srt l) (n : ByteArray) : idE (insR nm x l) n = if n = nm then x else idE l n := by
  induction l with
  | nil =>
    unfold insR
    by_cases hx : x = id0
    · rw [if_pos hx, idE_nil, hx]; split <;> rfl
    · rw [if_neg hx, idE_cons, idE_nil]
      by_cases hn : n = nm
      · rw [if_pos hn, hn, eqB_self, if_pos rfl]
      · rw [if_neg hn, eqB_ne (fun e => hn e.symm), if_neg (by simp)]
  | cons y l ih =>
    have ih' := ih h.tail
    cases hlt : ltB y.1 nm with
    | true =>
      rw [insR_lt hlt, idE_cons, ih', idE_cons]
      by_cases hn : n = nm
      · rw [if_pos hn, hn, eqB_lt hlt, if_neg (by simp), if_pos rfl]
      · rw [if_neg hn, if_neg hn]
    | false =>
      have hr := h.rest hlt
      have hab : ∀ z ∈ l, eqB z.1 nm = false := fun z hz => eqB_gt (hr z hz)
      cases he : eqB y.1 nm with
      | true =>
        have hy : y.1 = nm := (eqB_iff _ _).mp he
        rw [insR_eq hlt he, idE_cons]
        by_cases hn : n = nm
        · rw [if_pos hn, hn]
          by_cases hx : x = id0
          · rw [if_pos hx, hx, idE_absent hab]
          · rw [if_neg hx, idE_cons, eqB_self, if_pos rfl]
        · rw [if_neg hn, hy, eqB_ne (fun e => hn e.symm)]
          by_cases hx : x = id0
          · rw [if_pos hx, if_neg (by simp)]
          · rw [if_neg hx, idE_cons]
            simp only []
            rw [eqB_ne (fun e => hn e.symm)]
            simp only [Bool.false_eq_true, if_false]
      | false =>
        rw [insR_gt hlt he]
        by_cases hn : n = nm
        · rw [if_pos hn, hn]
          by_cases hx : x = id0
          · rw [if_pos hx, hx, idE_cons, he, if_neg (by simp), idE_absent hab]
          · rw [if_neg hx, idE_cons, eqB_self, if_pos rfl]
        · rw [if_neg hn]
          by_cases hx : x = id0
          · rw [if_pos hx]
          · rw [if_neg hx, idE_cons]
            simp only []
            rw [eqB_ne (fun e => hn e.symm), if_neg (by simp)]
def NoZero (l : List RefE) : Prop := ∀ z ∈ l, z.2 ≠ id0
theorem srt_ext : ∀ {l m : List RefE}, Srt l → Srt m → NoZero l → NoZero m → (∀ n, idE l n = idE m n) → l = m
  | [], [], _, _, _, _, _ => rfl
  | [], b :: m, _, _, _, hm, h => by
    have := h b.1
    rw [idE_nil, idE_cons, eqB_self, if_pos rfl] at this
    exact absurd this.symm (hm b (by simp))
  | a :: l, [], _, _, hl, _, h => by
    have := h a.1
    rw [idE_nil, idE_cons, eqB_self, if_pos rfl] at this
    exact absurd this (hl a (by simp))
  | a :: l, b :: m, sl, sm, hl, hm, h => by
    have hab : a.1 = b.1 := by
      cases hlt : ltB a.1 b.1 with
      | true =>
        have := h a.1
        rw [idE_cons, eqB_self, if_pos rfl, idE_absent (l := b :: m) (fun z hz => by
          rcases List.mem_cons.mp hz with rfl | hz
          · exact eqB_gt hlt
          · exact eqB_gt (lt_trans hlt (sm.head z hz)))] at this
        exact absurd this (hl a (by simp))
      | false =>
        cases hgt : ltB b.1 a.1 with
        | true =>
          have := h b.1
          rw [idE_cons (y := b), eqB_self, if_pos rfl, idE_absent (l := a :: l) (fun z hz => by
            rcases List.mem_cons.mp hz with rfl | hz
            · exact eqB_gt hgt
            · exact eqB_gt (lt_trans hgt (sl.head z hz)))] at this
          exact absurd this.symm (hm b (by simp))
        | false => exact lt_tri hlt hgt
    have h2 : a.2 = b.2 := by
      have := h a.1
      rw [idE_cons, eqB_self, if_pos rfl, idE_cons, hab, eqB_self, if_pos rfl] at this
      exact this
    have htl : l = m := srt_ext sl.tail sm.tail (fun z hz => hl z (by simp [hz])) (fun z hz => hm z (by simp [hz])) fun n => by
      by_cases hn : n = a.1
      · rw [hn, idE_absent (fun z hz => eqB_gt (sl.head z hz)), hab, idE_absent (fun z hz => eqB_gt (sm.head z hz))]
      · have := h n
        rw [idE_cons, eqB_ne (fun e => hn e.symm), if_neg (by simp), idE_cons, ← hab, eqB_ne (fun e => hn e.symm), if_neg (by simp)] at this
        exact this
    rw [htl, Prod.ext hab h2]
theorem fine_of {l : List RefE} (h64 : l.length ≤ 64) (hs : Srt l) (h : ∀ z ∈ l, nameB z.1 = true ∧ z.2 ≠ id0) : Fine l :=
  ⟨h64, fun i hi _ => ⟨(h _ (List.getElem_mem hi)).1, (h _ (List.getElem_mem hi)).2, fun j hj => List.pairwise_iff_getElem.mp hs j i (by omega) hi (by omega)⟩⟩
theorem fine_elem {l : List RefE} (h : Fine l) : ∀ z ∈ l, nameB z.1 = true ∧ z.2 ≠ id0 := fun z hz => by
  obtain ⟨i, hi, rfl⟩ := List.getElem_of_mem hz
  exact ⟨(h.2 i hi hi).1, (h.2 i hi hi).2.1⟩
/-- The first k updates all hold. -/
def OkTo (us : List UpE) (l : List RefE) (k : Nat) : Prop := ∀ i, (hi : i < us.length) → i < k → errE (runE us l i).1 (us.take i) us[i] = 0
theorem run_succ {us : List UpE} {l : List RefE} {i : Nat} (hi : i < us.length) : runE us l (i + 1) = (if errE (runE us l i).1 (us.take i) us[i] = 0 then putE (runE us l i).1 us[i].1 us[i].2.2 else (runE us l i).1, (runE us l i).2 ++ [errE (runE us l i).1 (us.take i) us[i]]) := by
  rw [runE, List.getElem?_eq_getElem hi]
theorem ok_of_bad (us : List UpE) (l : List RefE) (k : Nat) (hk : k ≤ us.length) (h : badB (runE us l k).2 = false) : OkTo us l k := by
  induction k with
  | zero => intro i _ h; omega
  | succ k ih =>
    rw [run_succ (by omega)] at h
    rw [badB_snoc, Bool.or_eq_false_iff] at h
    intro i hi hik
    by_cases e : i = k
    · subst e
      simpa using h.2
    · exact ih (by omega) h.1 i hi (by omega)
theorem bad_of_ok (us : List UpE) (l : List RefE) (k : Nat) (hk : k ≤ us.length) (h : OkTo us l k) : badB (runE us l k).2 = false := by
  induction k with
  | zero => rfl
  | succ k ih =>
    rw [run_succ (by omega), badB_snoc, ih (by omega) (fun i hi hik => h i hi (by omega)), h k (by omega) (by omega)]
    rfl
theorem errE_zero {l : List RefE} {pre : List UpE} {x : UpE} (h : errE l pre x = 0) : rightE pre x = true ∧ idE l x.1 = x.2.1 ∧ (putE l x.1 x.2.2).length ≤ 64 := by
  unfold errE at h
  split at h
  · rename_i h1
    split at h
    · rename_i h2
      split at h
      · rename_i h3
        exact ⟨h1, h2, h3⟩
      · exact absurd h (by decide)
    · exact absurd h (by decide)
  · exact absurd h (by decide)
theorem zero_errE {l : List RefE} {pre : List UpE} {x : UpE} (h1 : rightE pre x = true) (h2 : idE l x.1 = x.2.1) (h3 : (putE l x.1 x.2.2).length ≤ 64) : errE l pre x = 0 := by
  unfold errE
  rw [if_pos h1, if_pos h2, if_pos h3]
theorem rightE_true {pre : List UpE} {x : UpE} (h : rightE pre x = true) : nameB x.1 = true ∧ hasU pre x.1 = false ∧ (decide (x.2.1 = id0) && decide (x.2.2 = id0)) = false := by
  unfold rightE at h
  cases h1 : nameB x.1 <;> cases h2 : hasU pre x.1 <;> cases h3 : (decide (x.2.1 = id0) && decide (x.2.2 = id0)) <;> rw [h1, h2, h3] at h <;> simp_all
theorem true_rightE {pre : List UpE} {x : UpE} (h1 : nameB x.1 = true) (h2 : hasU pre x.1 = false) (h3 : (decide (x.2.1 = id0) && decide (x.2.2 = id0)) = false) : rightE pre x = true := by
  unfold rightE
  rw [h1, h2, h3]
  rfl
/-- What a name is given by updates. -/
def getU (us : List UpE) (l : List RefE) (n : ByteArray) : List Int := ((us.find? (fun u => eqB u.1 n)).map (·.2.2)).getD (idE l n)
theorem getU_absent {us : List UpE} {l : List RefE} {n : ByteArray} (h : hasU us n = false) : getU us l n = idE l n := by
  unfold getU
  rw [List.find?_eq_none.mpr (fun u hu => by
    have := List.any_eq_false.mp h u hu
    simpa using this)]
  rfl
theorem getU_snoc {us : List UpE} {l : List RefE} {n : ByteArray} {u : UpE} (h : hasU us u.1 = false) : getU (us ++ [u]) l n = if n = u.1 then u.2.2 else getU us l n := by
  by_cases hn : n = u.1
  · rw [if_pos hn, hn]
    unfold getU
    rw [List.find?_append, List.find?_eq_none.mpr (fun v hv => by
      have := List.any_eq_false.mp h v hv
      simpa using this)]
    simp [eqB_self]
  · rw [if_neg hn]
    unfold getU
    rw [List.find?_append]
    have : [u].find? (fun u => eqB u.1 n) = none := by simp [eqB_ne (fun e => hn e.symm)]
    rw [this]
    simp
theorem insR_length (nm : ByteArray) (x : List Int) (l : List RefE) : (insR nm x l).length ≤ l.length + 1 := by
  induction l with
  | nil => unfold insR; split <;> simp
  | cons y l ih =>
    unfold insR
    split
    · simp; omega
    · split
      · split
        · simp; omega
        · simp
      · split <;> simp
/-- How the refs are behind k updates that hold. -/
structure RunI (us : List UpE) (l : List RefE) (k : Nat) : Prop where
  srt : Srt (runE us l k).1
  elem : ∀ z ∈ (runE us l k).1, nameB z.1 = true ∧ z.2 ≠ id0
  get : ∀ n, idE (runE us l k).1 n = getU (us.take k) l n
  len : (runE us l k).1.length ≤ l.length + k
theorem run_inv (us : List UpE) (l : List RefE) (hf : Fine l) (k : Nat) (hk : k ≤ us.length) (h : OkTo us l k) : RunI us l k := by
  induction k with
  | zero => exact ⟨srt_of_fine hf, fine_elem hf, fun n => rfl, Nat.le_refl _⟩
  | succ k ih =>
    have I := ih (by omega) (fun i hi hik => h i hi (by omega))
    have h0 := h k (by omega) (by omega)
    obtain ⟨hr, hid, hlen⟩ := errE_zero h0
    obtain ⟨hnm, hhas, hzz⟩ := rightE_true hr
    have e : (runE us l (k + 1)).1 = insR us[k].1 us[k].2.2 (runE us l k).1 := by
      rw [run_succ (by omega)]
      simp only []
      rw [if_pos h0, putE_ins _ _ I.srt]
    refine ⟨by rw [e]; exact I.srt.ins _ _, fun z hz => ?_, fun n => ?_, ?_⟩
    · rw [e] at hz
      rcases insR_mem hz with hz | ⟨rfl, hx⟩
      · exact I.elem z hz
      · exact ⟨hnm, hx⟩
    · rw [e, idE_ins _ _ I.srt, List.take_succ_eq_append_getElem (by omega), getU_snoc hhas, I.get]
    · rw [e]
      have := insR_length us[k].1 us[k].2.2 (runE us l k).1
      have := I.len
      omega
def Dist (us : List UpE) : Prop := us.Pairwise (fun a b => eqB a.1 b.1 = false)
theorem dist_of_ok {us : List UpE} {l : List RefE} (h : OkTo us l us.length) : Dist us := List.pairwise_iff_getElem.mpr fun i j hi hj hij => by
  obtain ⟨_, hhas, _⟩ := rightE_true (errE_zero (h j hj hj)).1
  have hm : us[i] ∈ us.take j := List.mem_take_iff_getElem.mpr ⟨i, by omega, rfl⟩
  simpa using List.any_eq_false.mp hhas us[i] hm
theorem Dist.has {us : List UpE} (h : Dist us) (j : Nat) (hj : j < us.length) : hasU (us.take j) us[j].1 = false := List.any_eq_false.mpr fun u hu => by
  obtain ⟨i, hi, rfl⟩ := List.mem_take_iff_getElem.mp hu
  have := List.pairwise_iff_getElem.mp h i j (by omega) hj (by omega)
  rw [this]
  simp
theorem Dist.rev {us : List UpE} (h : Dist us) : Dist us.reverse := List.pairwise_reverse.mpr (h.imp fun h => by rw [eqB_comm]; exact h)
theorem Dist.get {us : List UpE} (h : Dist us) (l : List RefE) {u : UpE} (hu : u ∈ us) : getU us l u.1 = u.2.2 := by
  unfold getU
  cases hf : us.find? (fun v => eqB v.1 u.1) with
  | none =>
    have := List.find?_eq_none.mp hf u hu
    exact absurd (eqB_self u.1) this
  | some v =>
    have hv := List.mem_of_find?_eq_some hf
    have he : eqB v.1 u.1 = true := by have := List.find?_some hf; simpa using this
    obtain ⟨i, hi, rfl⟩ := List.getElem_of_mem hv
    obtain ⟨j, hj, rfl⟩ := List.getElem_of_mem hu
    have hij : i = j := by
      rcases Nat.lt_trichotomy i j with hlt | heq | hgt
      · have := List.pairwise_iff_getElem.mp h i j hi hj hlt
        rw [this] at he; cases he
      · exact heq
      · have := List.pairwise_iff_getElem.mp h j i hj hi hgt
        rw [eqB_comm, this] at he; cases he
    subst hij
    rfl
theorem getU_rev {us : List UpE} (h : Dist us) (l : List RefE) (n : ByteArray) : getU us.reverse l n = getU us l n := by
  by_cases hh : hasU us n = true
  · obtain ⟨u, hu, he⟩ := List.any_eq_true.mp hh
    have hn : u.1 = n := (eqB_iff _ _).mp he
    subst hn
    rw [h.get l hu, h.rev.get l (List.mem_reverse.mpr hu)]
  · have hh : hasU us n = false := by simpa using hh
    have hr : hasU us.reverse n = false := by unfold hasU at hh ⊢; rw [List.any_reverse]; exact hh
    rw [getU_absent hh, getU_absent hr]
/-- Updates that all hold, hold in the other order. -/
theorem ok_rev (us : List UpE) (l : List RefE) (hf : Fine l) (hlen : l.length + us.length ≤ 64) (h : OkTo us l us.length) : ∀ k, k ≤ us.length → OkTo us.reverse l k := by
  have hd := dist_of_ok h
  have hrl : us.reverse.length = us.length := List.length_reverse
  intro k
  induction k with
  | zero => intro _ i _ h; omega
  | succ k ih =>
    intro hk i hi hik
    by_cases e : i = k
    · subst e
      have I := run_inv us.reverse l hf i (by omega) (ih (by omega))
      have hmem : us.reverse[i] ∈ us := List.mem_reverse.mp (List.getElem_mem hi)
      obtain ⟨j, hj, hjj⟩ := List.getElem_of_mem hmem
      obtain ⟨hr, hid, _⟩ := errE_zero (h j hj hj)
      obtain ⟨hnm, hhas, hzz⟩ := rightE_true hr
      have J := run_inv us l hf j (by omega) (fun q hq hqj => h q hq (by omega))
      rw [J.get, getU_absent hhas] at hid
      rw [hjj] at hnm hzz hid
      have hhas2 := hd.rev.has i hi
      refine zero_errE (true_rightE hnm hhas2 hzz) ?_ ?_
      · rw [I.get, getU_absent hhas2]; exact hid
      · rw [putE_ins _ _ I.srt]
        have := insR_length us.reverse[i].1 us.reverse[i].2.2 (runE us.reverse l i).1
        have := I.len
        omega
    · exact ih (by omega) i hi (by omega)
/-- Refs behind updates that all hold may be; in the other order all hold, and come to the same. -/
theorem order_plain (us : List UpE) (l : List RefE) (hf : Fine l) (hlen : l.length + us.length ≤ 64) (h : badB (runE us l us.length).2 = false) :
    Fine (runE us l us.length).1 ∧ badB (runE us.reverse l us.length).2 = false ∧ (runE us.reverse l us.length).1 = (runE us l us.length).1 := by
  have hrl : us.reverse.length = us.length := List.length_reverse
  have ok := ok_of_bad us l us.length (Nat.le_refl _) h
  have I := run_inv us l hf us.length (Nat.le_refl _) ok
  have okr := ok_rev us l hf hlen ok us.length (Nat.le_refl _)
  have J := run_inv us.reverse l hf us.length (by omega) okr
  refine ⟨fine_of (by have := I.len; omega) I.srt I.elem, bad_of_ok us.reverse l us.length (by omega) okr, ?_⟩
  refine srt_ext J.srt I.srt (fun z hz => (J.elem z hz).2) (fun z hz => (I.elem z hz).2) fun n => ?_
  rw [J.get, I.get, List.take_length, List.take_of_length_le (by omega), getU_rev (dist_of_ok ok)]
end Go.Proofs.Ytklbemgepeleoaa.Rf
