/- disk's files in memory; where a file stands (a binary search). Functions' numbers are those of the seat's dump. -/
import Derived.Test.YtaibcfghokhghaaSl1
import Derived.Test.YtaibcfghokhghaaPAx0
import Derived.Lib.Bytealg
import Derived.IntWalk
set_option linter.unusedVariables false
set_option linter.unusedSimpArgs false
namespace Go.Proofs.Ytaibcfghokhghaa.Dk
open Go.RowKit Go.Proofs.Ytaibcfghokhghaa.Lk Go.Proofs.YtaibcfghokhghaaW.PrintWords Go.Proofs.YtaibcfghokhghaaW.PrintLast Go.Proofs.YtaibcfghokhghaaW.PrintMore
attribute [local go_sem] max2_int min2_int max_two min_two max_three min_three max_four min_four

abbrev File := ByteArray × ByteArray
def cmpN (a b : ByteArray) : Int := Lib.compareBytes a.data.toList b.data.toList
def fcells (l : List File) : List Value := l.flatMap fun x => [.string x.1, .string x.2]
theorem fcells_length (l : List File) : (fcells l).length = l.length * 2 := by
  induction l with
  | nil => rfl
  | cons x l ih => simp only [fcells, List.flatMap_cons, List.length_append, List.length_cons, List.length_nil] at ih ⊢; omega
theorem fcells_append (l m : List File) : fcells (l ++ m) = fcells l ++ fcells m := by simp [fcells]
theorem fcells_at (l : List File) (j : Nat) (h : j < l.length) : (fcells l)[j * 2]? = some (.string l[j].1) ∧ (fcells l)[j * 2 + 1]? = some (.string l[j].2) := by
  induction l generalizing j with
  | nil => simp at h
  | cons x l ih =>
    cases j with
    | zero => exact ⟨rfl, rfl⟩
    | succ j =>
      have := ih j (by simp only [List.length_cons] at h; omega)
      rw [show (j + 1) * 2 = j * 2 + 2 by omega]
      exact this
theorem fcells_take (l : List File) (k : Nat) : (fcells l).take (k * 2) = fcells (l.take k) := by
  induction l generalizing k with
  | nil => simp [fcells]
  | cons x l ih =>
    cases k with
    | zero => rfl
    | succ k =>
      rw [show (k + 1) * 2 = k * 2 + 1 + 1 by omega]
      show Value.string x.1 :: Value.string x.2 :: (fcells l).take (k * 2) = _
      rw [ih]
      rfl
theorem fcells_drop (l : List File) (k : Nat) : (fcells l).drop (k * 2) = fcells (l.drop k) := by
  induction l generalizing k with
  | nil => simp [fcells]
  | cons x l ih =>
    cases k with
    | zero => rfl
    | succ k =>
      rw [show (k + 1) * 2 = k * 2 + 1 + 1 by omega]
      show (fcells l).drop (k * 2) = _
      rw [ih]
      rfl
theorem fcells_one (l : List File) : ∀ u ∈ fcells l, u.oneCell' = true := by
  intro u hu
  obtain ⟨x, _, hx⟩ := List.mem_flatMap.mp hu
  simp at hx
  rcases hx with rfl | rfl <;> rfl

set_option maxHeartbeats 1000000 in
set_option maxRecDepth 100000 in
theorem compareString_calls (a b : ByteArray) (w : World) : Calls Try.prog 34 #[.string a, .string b] w fun e w' => e = .returned (.int .i64 (cmpN a b)) ∧ w' = w := by
  go_enter Try.func34, Try.ntmps34
  go_wp2
  rw [run_callFunc_extern Try.func36 (by kernel_rfl) (by kernel_rfl) (by kernel_rfl) (e := Extern.BytealgCompare.compare) (by kernel_rfl), Lib.run_compareString]
  simp only [Result.andThen]
  rw [Oper.upon_value]
  go_wp2
  go_ret
  exact ⟨rfl, rfl⟩
set_option maxHeartbeats 1000000 in
set_option maxRecDepth 100000 in
theorem compare_calls (a b : ByteArray) (w : World) : Calls Try.prog 30 #[.string a, .string b] w fun e w' => e = .returned (.int .i64 (cmpN a b)) ∧ w' = w := by
  go_enter Try.func30, Try.ntmps30
  go_wp2_with (go_at_call 34; refine (compareString_calls _ _ _).mono ?_; rintro e w' ⟨rfl, rfl⟩)
  go_ret
  exact ⟨rfl, rfl⟩
set_option maxHeartbeats 1000000 in
set_option maxRecDepth 100000 in
theorem closure_calls (a d b : ByteArray) (w : World) : Calls Try.prog 29 #[.agg #[.string a, .string d], .string b] w fun e w' => e = .returned (.int .i64 (cmpN a b)) ∧ Below w.heap.size w w' := by
  go_enter Try.func29, Try.ntmps29
  go_wp2_with (go_at_call 30; refine (compare_calls _ _ _).mono ?_; rintro e w' ⟨rfl, rfl⟩)
  go_ret
  exact ⟨rfl, (Below.refl _ _).alloc (Nat.le_refl _) _⟩

/-- p: how many of the files have lesser names. -/
def Lower (l : List File) (name : ByteArray) (p : Nat) : Prop := p ≤ l.length ∧ ∀ j, (h : j < l.length) → (cmpN l[j].1 name < 0 ↔ j < p)
def isAt (l : List File) (name : ByteArray) (p : Nat) : Bool := match l[p]? with
  | some x => decide (cmpN x.1 name = 0)
  | none => false
theorem Rw.below {w w' : World} {e sz n : Nat} {v : Value} {xs : List Value} (h : Rw w e sz v n xs) (hb : Below w.heap.size w w') : Rw w' e sz v n xs := h.of_block fun k hk => hb.block k (h.lt k hk)
theorem file_cells {w : World} {g off cap : Nat} {l : List File} (h : Rw w 54 2 (.slice (some ⟨g, off, none⟩) l.length cap) l.length (fcells l)) (j : Nat) (hj : j < l.length) :
    w.cell? ⟨g, off + j * 2, none⟩ = some (.string l[j].1) ∧ w.cell? ⟨g, off + j * 2 + 1, none⟩ = some (.string l[j].2) := by
  obtain ⟨h1, h2⟩ := fcells_at l j hj
  exact ⟨h.cell h1, by rw [Nat.add_assoc]; exact h.cell h2⟩

set_option maxHeartbeats 2000000 in
set_option maxRecDepth 100000 in
theorem search_some (w : World) (g off cap : Nat) (l : List File) (name : ByteArray) (p : Nat) (h : Rw w 54 2 (.slice (some ⟨g, off, none⟩) l.length cap) l.length (fcells l)) (hl : l.length ≤ 1000000) (hp : Lower l name p) :
    Calls Try.prog 28 #[.slice (some ⟨g, off, none⟩) l.length cap, .string name, .func (.func 29) #[] #[]] w fun e w' => e = .returned (.tuple #[.int .i64 (p : Int), .bool (isAt l name p)]) ∧ Below w.heap.size w w' := by
  have HR := Aside0.mk h
  have HP := Aside0.mk hp
  have HB := Aside0.mk (Below.refl w.heap.size w)
  clear h hp
  go_enter Try.func28, Try.ntmps28
  go_wp2
  go_loopw [9, 10] (fun v9 v10 w' => ∃ i j : Nat, v9 = .int .i64 (i : Int) ∧ v10 = .int .i64 (j : Int) ∧ i ≤ p ∧ p ≤ j ∧ j ≤ l.length ∧ Aside0 (Below w.heap.size w w')) (fun v9 v10 _ => (intOf v10 - intOf v9).toNat)
  case atStart => exact ⟨0, l.length, rfl, rfl, Nat.zero_le _, HP.out.1, Nat.le_refl _, HB⟩
  case round =>
    clear HB
    obtain ⟨i, j, rfl, rfl, hip, hpj, hjl, HB⟩ := hrel
    by_cases hlt : i < j
    · have c1 : decide ((i : Int) < (j : Int)) = true := decide_eq_true (by omega)
      have b1 : (0 : Int) ≤ (i : Int) + (j : Int) := by omega
      have b2 : (i : Int) + (j : Int) ≤ 2000000 := by omega
      have hm : (i + j) / 2 < l.length := by omega
      obtain ⟨y1, y2⟩ := file_cells (Rw.below HR.out HB.out) ((i + j) / 2) hm
      have hq := HP.out.2 ((i + j) / 2) hm
      obtain ⟨nm, hnm⟩ : ∃ nm, l[(i + j) / 2].1 = nm := ⟨_, rfl⟩
      obtain ⟨dt, hdt⟩ : ∃ dt, l[(i + j) / 2].2 = dt := ⟨_, rfl⟩
      rw [hnm] at y1 hq
      rw [hdt] at y2
      have HM := Aside0.mk hm
      clear hnm hdt hm
      by_cases c2 : (i + j) / 2 < p
      · have c3 : decide (cmpN nm name < 0) = true := decide_eq_true (hq.mpr c2)
        clear hq
        go_wp2_with (go_at_call 29; refine (closure_calls nm dt name _).mono ?_; rintro e w5 ⟨rfl, hb5⟩; have HB5 := Aside0.mk (HB.out.trans (hb5.mono HB.out.size)); clear hb5)
        go_roundw
        case rel => exact ⟨(i + j) / 2 + 1, j, by first | rfl | (congr 1; omega), rfl, by omega, hpj, hjl, HB5⟩
        case measure => simp [intOf]; omega
      · have c3 : decide (cmpN nm name < 0) = false := decide_eq_false (fun x => c2 (hq.mp x))
        clear hq
        go_wp2_with (go_at_call 29; refine (closure_calls nm dt name _).mono ?_; rintro e w5 ⟨rfl, hb5⟩; have HB5 := Aside0.mk (HB.out.trans (hb5.mono HB.out.size)); clear hb5)
        go_roundw
        case rel => exact ⟨i, (i + j) / 2, rfl, by first | rfl | (congr 1; omega), hip, by omega, by omega, HB5⟩
        case measure => simp [intOf]; omega
    · have c1 : decide ((i : Int) < (j : Int)) = false := decide_eq_false (by omega)
      have c1b : ((i : Int) < (j : Int)) = False := eq_false (by omega)
      have hpi : p = i := by omega
      subst hpi
      by_cases cl : p < l.length
      · have e1 : decide ((p : Int) < (l.length : Int)) = true := decide_eq_true (by omega)
        obtain ⟨y1, y2⟩ := file_cells (Rw.below HR.out HB.out) p cl
        have hat : isAt l name p = decide (cmpN l[p].1 name = 0) := by unfold isAt; rw [List.getElem?_eq_getElem cl]
        obtain ⟨nm, hnm⟩ : ∃ nm, l[p].1 = nm := ⟨_, rfl⟩
        obtain ⟨dt, hdt⟩ : ∃ dt, l[p].2 = dt := ⟨_, rfl⟩
        rw [hnm] at y1 hat
        rw [hdt] at y2
        have HAT := Aside0.mk hat
        have z1 : (p : Int) < (l.length : Int) := by omega
        clear hnm hdt hat cl
        by_cases c2 : cmpN nm name = 0
        · have c3 : (cmpN nm name == 0) = true := beq_iff_eq.mpr c2
          have HE := Aside0.mk c2
          clear c2
          go_wp2_with (go_at_call 29; refine (closure_calls nm dt name _).mono ?_; rintro e w5 ⟨rfl, hb5⟩; have HB5 := Aside0.mk (HB.out.trans (hb5.mono HB.out.size)); clear hb5)
          go_ret2
          exact ⟨by rw [HAT.out, HE.out]; rfl, HB5.out⟩
        · have c3 : (cmpN nm name == 0) = false := beq_eq_false_iff_ne.mpr c2
          have HE := Aside0.mk (decide_eq_false c2)
          clear c2
          go_wp2_with (go_at_call 29; refine (closure_calls nm dt name _).mono ?_; rintro e w5 ⟨rfl, hb5⟩; have HB5 := Aside0.mk (HB.out.trans (hb5.mono HB.out.size)); clear hb5)
          go_ret2
          exact ⟨by rw [HAT.out, HE.out]; rfl, HB5.out⟩
      · have e1 : decide ((p : Int) < (l.length : Int)) = false := decide_eq_false (by omega)
        have HAT := Aside0.mk (show isAt l name p = false by unfold isAt; rw [List.getElem?_eq_none (by omega)])
        go_wp2
        go_ret2
        exact ⟨by rw [HAT.out]; rfl, HB.out⟩
set_option maxHeartbeats 2000000 in
set_option maxRecDepth 100000 in
theorem search_nil (w : World) (name : ByteArray) :
    Calls Try.prog 28 #[.slice none 0 0, .string name, .func (.func 29) #[] #[]] w fun e w' => e = .returned (.tuple #[.int .i64 0, .bool false]) ∧ Below w.heap.size w w' := by
  have HB := Aside0.mk (Below.refl w.heap.size w)
  go_enter Try.func28, Try.ntmps28
  go_wp2
  go_loopw [9, 10] (fun v9 v10 w' => v9 = .int .i64 0 ∧ v10 = .int .i64 0 ∧ Aside0 (Below w.heap.size w w')) (fun v9 v10 _ => 0)
  case atStart => exact ⟨rfl, rfl, HB⟩
  case round =>
    clear HB
    obtain ⟨rfl, rfl, HB⟩ := hrel
    go_wp2
    go_ret2
    exact ⟨rfl, HB.out⟩
theorem search_calls (w : World) (v : Value) (l : List File) (name : ByteArray) (p : Nat) (h : Rw w 54 2 v l.length (fcells l)) (hl : l.length ≤ 1000000) (hp : Lower l name p) :
    Calls Try.prog 28 #[v, .string name, .func (.func 29) #[] #[]] w fun e w' => e = .returned (.tuple #[.int .i64 (p : Int), .bool (isAt l name p)]) ∧ Below w.heap.size w w' := by
  rcases h.2 with ⟨rfl, h0⟩ | ⟨g, off, cap, cur, rfl, _⟩
  · have hl0 : l = [] := List.eq_nil_of_length_eq_zero h0
    subst hl0
    have hp0 : p = 0 := by have := hp.1; simp at this; omega
    subst hp0
    exact search_nil w name
  · exact search_some w g off cap l name p h hl hp
end Go.Proofs.Ytaibcfghokhghaa.Dk
