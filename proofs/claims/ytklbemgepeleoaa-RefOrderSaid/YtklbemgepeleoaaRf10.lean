/- Refs: Clone of refs that are only read; DeleteFunc; put. -/
import Derived.Test.YtklbemgepeleoaaRf9
import Derived.Test.YtklbemgepeleoaaSl2
set_option linter.unusedVariables false
set_option linter.unusedSimpArgs false
namespace Go.Proofs.Ytklbemgepeleoaa.Rf
open Go.RowKit Go.Proofs.Ytklbemgepeleoaa.Lk Go.Proofs.YtklbemgepeleoaaW.PrintWords Go.Proofs.YtklbemgepeleoaaW.PrintLast Go.Proofs.YtklbemgepeleoaaW.PrintMore
attribute [local go_sem] max2_int min2_int max_two min_two max_three min_three max_four min_four
attribute [-simp] Try.isAgg37 Try.isAgg54 Try.isAgg39
attribute [-go_sem] Instr.loadAt Instr.storeAt
attribute [local go_sem] loadAt9 loadAt3
set_option maxHeartbeats 1000000 in
set_option maxRecDepth 100000 in
theorem index47 (w : World) (A : Option Addr) (c : Nat) (l : List RefE) (h : RdL w A c l) (hl : l.length ≤ 1000000) (p : Addr) (nm : ByteArray) (hp : w.cell? p = some (.string nm)) (s : Nat) (hs : s ≤ l.length)
    (hbef : ∀ j, (hj : j < s) → eqB (l[j]'(by omega)).1 nm = false) (hat : (hs : s < l.length) → eqB l[s].1 nm = true) :
    Calls Try.prog 42 #[.slice A l.length c, .func (.func 47) #[] #[.pointer (some p)]] w fun e w' => e = .returned (.int .i64 (ixE l.length s)) ∧ Below w.heap.size w w' := by
  have HR := Aside0.mk h
  have HP := Aside0.mk hp
  have HBF := Aside0.mk hbef
  have HAT := Aside0.mk hat
  clear h hp hbef hat
  go_enter Try.func42, Try.ntmps42
  go_wp2
  go_loopw [8] (fun v8 w' => ∃ k : Nat, v8 = .int .i64 (k : Int) ∧ k ≤ s ∧ Aside0 (Below w.heap.size w w')) (fun v8 _ => l.length - (intOf v8).toNat)
  case atStart => exact ⟨0, rfl, Nat.zero_le _, ⟨Below.refl _ _⟩⟩
  case round =>
    obtain ⟨k, rfl, hk, HB⟩ := hrel
    by_cases hlt : k < l.length
    · have e1 : decide ((k : Int) < (l.length : Int)) = true := decide_eq_true (by omega)
      have e3 : (0 : Int) ≤ (k : Int) := by omega
      have e4 : (k : Int) < (l.length : Int) := by omega
      obtain ⟨a, rfl, hload⟩ := (HR.out.below HB.out).whole k hlt
      have HP2 := Aside0.mk (pw_cell_below HB.out HP.out)
      by_cases hks : k = s
      · have HEQ := Aside0.mk (show eqB l[k].1 nm = true by subst hks; exact HAT.out hlt)
        have HV := Aside0.mk (show ixE l.length s = (k : Int) by unfold ixE; subst hks; rw [if_pos hlt])
        obtain ⟨nx, hnx⟩ : ∃ nx, l[k].1 = nx := ⟨_, rfl⟩
        obtain ⟨x, hx⟩ : ∃ x, l[k].2 = x := ⟨_, rfl⟩
        rw [hnx, hx] at hload
        rw [hnx] at HEQ
        clear hks hnx hx
        go_wp2_with (go_at_call 47; refine (clo47 _ nx x p nm HP2.out).mono ?_; rw [HEQ.out]; rintro e w5 ⟨rfl, hb5⟩; have HB5 := Aside0.mk (HB.out.trans (hb5.mono HB.out.size)); clear hb5)
        go_ret
        exact ⟨by rw [HV.out]; rfl, HB5.out⟩
      · have HEQ := Aside0.mk (show eqB l[k].1 nm = false from HBF.out k (by omega))
        have HK := Aside0.mk (show k + 1 ≤ s by omega)
        obtain ⟨nx, hnx⟩ : ∃ nx, l[k].1 = nx := ⟨_, rfl⟩
        obtain ⟨x, hx⟩ : ∃ x, l[k].2 = x := ⟨_, rfl⟩
        rw [hnx, hx] at hload
        rw [hnx] at HEQ
        clear hks hnx hx
        go_wp2_with (go_at_call 47; refine (clo47 _ nx x p nm HP2.out).mono ?_; rw [HEQ.out]; rintro e w5 ⟨rfl, hb5⟩; have HB5 := Aside0.mk (HB.out.trans (hb5.mono HB.out.size)); clear hb5)
        go_roundw
        case rel => exact ⟨k + 1, by go_num, HK.out, HB5⟩
        case measure => simp [intOf]; omega
    · have e1 : decide ((k : Int) < (l.length : Int)) = false := decide_eq_false (by omega)
      have HV := Aside0.mk (show ixE l.length s = -1 by unfold ixE; rw [if_neg (by omega)])
      go_wp2
      go_ret
      exact ⟨by rw [HV.out]; rfl, HB.out⟩
set_option maxHeartbeats 1000000 in
set_option maxRecDepth 100000 in
theorem clone_nil (w : World) (c : Nat) : Calls Try.prog 23 #[.slice none 0 c] w fun e w' => e = .returned (.slice none 0 0) ∧ w' = w := by
  have hq := fun (W : World) => Lib.run_eql_slice_nil (P := Try.prog) W 22 54 none 0 c 0 0 Sl2.uT
  go_enter Try.func23, Try.ntmps23
  go_wp2
  go_ret
  exact ⟨rfl, rfl⟩
set_option maxHeartbeats 1000000 in
set_option maxRecDepth 100000 in
theorem clone_some (w : World) (n cap : Nat) (a : Addr) (xs : List Value) (hxl : xs.length = n * 33) (hcell : ∀ j u, xs[j]? = some u → w.cell? (a.add j) = some u) (h1x : ∀ u ∈ xs, u.oneCell' = true) (hlt : n ≤ 1000000) :
    Calls Try.prog 23 #[.slice (some a) n cap] w fun e w' =>
      ∃ v', e = .returned v' ∧ Rw w' 54 33 v' n xs ∧ Below w.heap.size w w' ∧ (∀ k, v'.ownBlock = some k → w.heap.size ≤ k) := by
  obtain ⟨i0, hi0, hz0, hs0, hb0⟩ := info_parts Sl2.infoE
  have hq := fun (W : World) => Lib.run_eql_slice_nil (P := Try.prog) W 22 54 (some a) n cap 0 0 Sl2.uT
  have hR0 : Rw (w.alloc (.cells #[] 54)) 54 33 (.slice (some ⟨w.heap.size, 0, none⟩) 0 0) 0 [] :=
    ⟨by simp, .inr ⟨w.heap.size, 0, 0, #[], rfl, heap_alloc_new w _, Nat.le_refl _, by simp [maxLen], by simp, by simp⟩⟩
  have hA : ∀ j u, xs[j]? = some u → (w.alloc (.cells #[] 54)).cell? (a.add j) = some u := fun j u hj => pw_cell_below ((Below.refl _ _).alloc (Nat.le_refl _) _) (hcell j u hj)
  by_cases h0 : n = 0
  · subst h0
    have hxs : xs = [] := List.eq_nil_of_length_eq_zero (by omega)
    subst hxs
    obtain ⟨w1, cur1, cur1', _, _, _, hr1, hR1, hG1⟩ := run_append_within (P := Try.prog) (w.alloc (.cells #[] 54)) 22 22 54 i0 Sl2.uT hi0 (n := 0) (g := w.heap.size) (off := 0) (cap := 0) (xs := []) (by rw [hs0]; exact hR0) a 0 cap [] (by simp) (fun j u hj => by simp at hj) (fun u hu => by simp at hu) (Nat.le_refl _)
    have A1 := Aside0.mk hR1
    have A2 := Aside0.mk (show Below w.heap.size w w1 from ⟨hG1.os, hG1.tape, hG1.output, Nat.le_trans (by simp) hG1.size, fun j hj => (hG1.block j (by simp; omega) (fun e => by injection e with e; omega)).trans (heap_alloc_old w _ hj)⟩)
    clear hR1 hG1 hA hR0 hz0 hcell
    rw [Nat.add_zero] at hr1
    go_enter Try.func23, Try.ntmps23
    go_wp2_with (at_builtin; refine Lib.wpList_append_run _ rfl _ _ _ _ rfl _ _ rfl rfl _ _ hr1 ?_)
    go_ret
    refine ⟨_, rfl, ?_, A2.out, fun k hk => ?_⟩
    · have := A1.out
      rw [hs0] at this
      exact this
    · have : w.heap.size = k := by simpa [Value.ownBlock] using hk
      omega
  · obtain ⟨cap', w1, hr1, hR1, hB1⟩ := run_append_full (P := Try.prog) (w.alloc (.cells #[] 54)) 22 22 54 i0 _ 33 48 Sl2.uT hi0 hz0 hs0 hb0 rfl hR0 a n cap xs hxl hA (by omega) (by omega) (by simp only [maxLen]; omega) (by omega)
    rw [Nat.zero_add] at hr1 hR1
    rw [List.nil_append] at hR1
    have hsz : (w.alloc (.cells #[] 54)).heap.size = w.heap.size + 1 := by simp
    rw [hsz] at hr1 hR1 hB1
    have A1 := Aside0.mk hR1
    have A2 := Aside0.mk (show Below w.heap.size w w1 from ((Below.refl _ _).alloc (Nat.le_refl _) _).trans (hB1.mono (by omega)))
    clear hR1 hB1 hA hR0 hz0 hsz hcell
    go_enter Try.func23, Try.ntmps23
    go_wp2_with (at_builtin; refine Lib.wpList_append_run _ rfl _ _ _ _ rfl _ _ rfl rfl _ _ hr1 ?_)
    go_ret
    refine ⟨_, rfl, A1.out, A2.out, fun k hk => ?_⟩
    have : w.heap.size + 1 = k := by simpa [Value.ownBlock] using hk
    omega
/-- slices.Clone of refs that are only read. -/
theorem clone_calls (w : World) (A : Option Addr) (c : Nat) (l : List RefE) (h : RdL w A c l) (hl : l.length ≤ 1000000) :
    Calls Try.prog 23 #[.slice A l.length c] w fun e w' => ∃ v', e = .returned v' ∧ Rw w' 54 33 v' l.length (rcells l) ∧ Below w.heap.size w w' ∧ (∀ k, v'.ownBlock = some k → w.heap.size ≤ k) := by
  cases A with
  | none =>
    have h0 : l = [] := by
      rcases l with _ | ⟨x, l⟩
      · rfl
      · obtain ⟨a, e, _⟩ := h.at 0 (by simp)
        cases e
    subst h0
    refine (clone_nil w c).mono ?_
    rintro e w' ⟨rfl, rfl⟩
    exact ⟨_, rfl, Rw.nil _ _ _, Below.refl _ _, fun k hk => by simp [Value.ownBlock] at hk⟩
  | some a =>
    refine clone_some w l.length c a (rcells l) (rcells_length l h.good) (fun j u hj => ?_) (rcells_one l) hl
    obtain ⟨a', e, hc⟩ := h.cell j u hj
    obtain rfl := Option.some.inj e
    exact hc
theorem rcells_set (m : List RefE) (hm : Good32 m) (i : Nat) (hi : i < m.length) (x : RefE) : rcells (m.set i x) = (rcells m).take (i * 33) ++ rcell x ++ (rcells m).drop ((i + 1) * 33) := by
  rw [rcells_take m hm, rcells_drop m hm, List.set_eq_take_append_cons_drop, if_pos hi, rcells_append]
  simp [rcells]
theorem Good32.set {m : List RefE} (h : Good32 m) (i : Nat) {x : RefE} (hx : x.2.length = 32) : Good32 (m.set i x) := fun y hy => by
  rcases List.mem_or_eq_of_mem_set hy with hy | rfl
  · exact h y hy
  · exact hx
/-- An element into a row. -/
theorem store_el {w : World} {n g off cap : Nat} {m : List RefE} (h : Rw w 54 33 (.slice (some ⟨g, off, none⟩) n cap) n (rcells m)) (hm : Good32 m) (hn : m.length = n) (i : Nat) (hi : i < n) (nx : ByteArray) (x : List Int) (hx : x.length = 32) :
    ∃ w', (Instr.storeAt 54 (.pointer (some ⟨g, off + i * 33, none⟩)) (.agg (.string nx :: idc x).toArray)).run Try.prog w = .ok () w' ∧ Rw w' 54 33 (.slice (some ⟨g, off, none⟩) n cap) n (rcells (m.set i (nx, x))) ∧ w.grownBy w' (some g) := by
  obtain ⟨cur, hg, hnn, hmx, hs, hxx⟩ := h.open_
  obtain ⟨i0, hi0, hz0, hs0, hb0⟩ := info_parts Sl2.infoE
  have hl := rcell_length (x := (nx, x)) hx
  have hst := run_storeCells_at Try.prog g (off + i * 33) 54 (rcell (nx, x)) 0 cur w hg (by rw [Nat.add_zero]; omega) (rcell_one (nx, x))
  simp only [Nat.add_zero] at hst
  obtain ⟨cur', hcur'⟩ : ∃ c, c = (cur.toList.take (off + i * 33) ++ rcell (nx, x) ++ cur.toList.drop (off + i * 33 + (rcell (nx, x)).length)).toArray := ⟨_, rfl⟩
  rw [← hcur'] at hst
  refine ⟨w.setRow g cur', ?_, ?_, ⟨rfl, rfl, rfl, by simp, fun j _ hj => setRow_other w g j _ (fun e => hj (by rw [e]))⟩⟩
  · simp only [Instr.storeAt, Instr.sureAddr, Sem.run_bind, Sem.run_pure, Result.andThen_ok]
    have : (storeVar 54 ⟨g, off + i * 33, none⟩ (.agg (rcell (nx, x)).toArray)).run Try.prog w = .ok () (w.setRow g cur') := by
      simpa [storeVar, sizeOf, typeInfo, hi0, Value.cells, hs0, hl] using hst
    exact this
  · rw [rcells_set m hm i (by omega) (nx, x), hcur']
    exact h.set_ i 1 (by omega) (rcell (nx, x)) (by omega) cur hg
set_option maxRecDepth 100000 in
theorem box_ref2 (w : World) (nx : ByteArray) (x : List Int) (hx : x.length = 32) : ∃ w1, (Instr.storeAt 54 (.pointer (some ⟨w.heap.size, 0, none⟩)) (.agg (.string nx :: idc x).toArray)).run Try.prog (w.alloc (.cells zc54 54)) = .ok () w1 ∧
    Below w.heap.size w w1 ∧ w1.heap.size = w.heap.size + 1 ∧ w1.heap[w.heap.size]? = some (.cells (.string nx :: idc x).toArray 54 (0, 0)) ∧
    ∀ w2, Below (w.heap.size + 1) w1 w2 → (Instr.loadAt 54 (.pointer (some ⟨w.heap.size, 0, none⟩))).run Try.prog w2 = .ok (.agg (.string nx :: idc x).toArray) w2 := by
  have hl := rcell_length (x := (nx, x)) hx
  refine ⟨w.alloc (.cells (rcell (nx, x)).toArray 54), run_storeAt_new w 54 zc54 (rcell (nx, x)).toArray (by rw [show (Try.prog.info? 54).map (·.size) = some 33 by kernel_rfl]; simp [hl]) (by simp [hl]) (all_oneCell_toArray (rcell_one _)), (Below.refl _ _).alloc (Nat.le_refl _) _, by simp, heap_alloc_last w _, ?_⟩
  intro w2 hb
  refine run_loadAt_any w2 ⟨w.heap.size, 0, none⟩ 54 (rcell (nx, x)) _ (fun j v hv => ?_) Try.underlying54 rfl (by rw [show (Try.prog.info? 54).map (·.size) = some 33 by kernel_rfl, hl])
  rw [Addr.add_mid, Nat.zero_add, hb.cell (p := ⟨w.heap.size, j, none⟩) (by simp), cell_of_row _ _ j _ _ (0, 0) (heap_alloc_last w _)]
  simpa using hv
theorem rw_below {w w' : World} {e sz n : Nat} {v : Value} {xs : List Value} (h : Rw w e sz v n xs) (hb : Below w.heap.size w w') : Rw w' e sz v n xs := h.of_block fun k hk => hb.block k (h.lt k hk)
/-- What holds of a row out of which elements are taken. -/
structure DelI (w wr : World) (g off cap : Nat) (l : List RefE) (nm : ByteArray) (p : Addr) (i j : Nat) (m : List RefE) : Prop where
  len : m.length = l.length
  good : Good32 m
  head : m.take i = (l.take j).filter (fun x => !eqB x.1 nm)
  tail : m.drop j = l.drop j
  row : Rw wr 54 33 (.slice (some ⟨g, off, none⟩) l.length cap) l.length (rcells m)
  grown : w.grownBy wr (some g)
  cell : wr.cell? p = some (.string nm)
theorem DelI.at {w wr : World} {g off cap : Nat} {l : List RefE} {nm : ByteArray} {p : Addr} {i j : Nat} {m : List RefE} (h : DelI w wr g off cap l nm p i j m) (hj : j < l.length) : m[j]'(by rw [h.len]; exact hj) = l[j] := by
  have h1 : (m.drop j)[0]? = (l.drop j)[0]? := by rw [h.tail]
  rw [List.getElem?_drop, List.getElem?_drop, Nat.add_zero, List.getElem?_eq_getElem (by rw [h.len]; exact hj), List.getElem?_eq_getElem hj] at h1
  exact Option.some.inj h1
theorem DelI.skip {w wr w5 : World} {g off cap : Nat} {l : List RefE} {nm : ByteArray} {p : Addr} {i j : Nat} {m : List RefE} (h : DelI w wr g off cap l nm p i j m) (hj : j < l.length) (he : eqB l[j].1 nm = true) (hb : Below wr.heap.size wr w5) : DelI w w5 g off cap l nm p i (j + 1) m := by
  refine ⟨h.len, h.good, ?_, ?_, rw_below h.row hb, ⟨hb.os.trans h.grown.os, hb.tape.trans h.grown.tape, hb.output.trans h.grown.output, Nat.le_trans h.grown.size hb.size, fun k hk hn => (hb.block k (Nat.lt_of_lt_of_le hk h.grown.size)).trans (h.grown.block k hk hn)⟩, pw_cell_below hb h.cell⟩
  · rw [h.head, List.take_succ_eq_append_getElem hj, List.filter_append]
    simp [he]
  · rw [← List.drop_drop, ← List.drop_drop, h.tail]
theorem DelI.keep {w wr w5 w6 : World} {g off cap : Nat} {l : List RefE} {nm : ByteArray} {p : Addr} {i j : Nat} {m : List RefE} (h : DelI w wr g off cap l nm p i j m) (hij : i < j) (hj : j < l.length) (he : eqB l[j].1 nm = false) (hx : l[j].2.length = 32) (hb : Below wr.heap.size wr w5)
    (hpg : p.block ≠ g) (hr : Rw w6 54 33 (.slice (some ⟨g, off, none⟩) l.length cap) l.length (rcells (m.set i l[j]))) (hg : w5.grownBy w6 (some g)) : DelI w w6 g off cap l nm p (i + 1) (j + 1) (m.set i l[j]) := by
  have c5 := pw_cell_below hb h.cell
  refine ⟨by rw [List.length_set, h.len], h.good.set i hx, ?_, ?_, hr, ⟨hg.os.trans (hb.os.trans h.grown.os), hg.tape.trans (hb.tape.trans h.grown.tape), hg.output.trans (hb.output.trans h.grown.output), Nat.le_trans h.grown.size (Nat.le_trans hb.size hg.size), fun k hk hn => (hg.block k (Nat.lt_of_lt_of_le hk (Nat.le_trans h.grown.size hb.size)) hn).trans ((hb.block k (Nat.lt_of_lt_of_le hk h.grown.size)).trans (h.grown.block k hk hn))⟩,
    (World.cell?_of_block (hg.block p.block (World.block_lt_of_cell? w5 p c5) (fun e => by injection e with e; exact hpg e))).trans c5⟩
  · rw [List.take_succ_eq_append_getElem (by rw [List.length_set, h.len]; omega), List.getElem_set_self, List.take_set_of_le (Nat.le_refl _), h.head, List.take_succ_eq_append_getElem hj, List.filter_append]
    simp [he]
  · rw [List.drop_set_of_lt (by omega), ← List.drop_drop, ← List.drop_drop, h.tail]
def sansE (l : List RefE) (nm : ByteArray) : List RefE := l.filter (fun x => !eqB x.1 nm)
theorem sansE_none (l : List RefE) (nm : ByteArray) (h : ¬ posE l nm < l.length) : sansE l nm = l := List.filter_eq_self.mpr fun x hx => by
  obtain ⟨k, hk, rfl⟩ := List.getElem_of_mem hx
  rw [posE_bef l nm k (by omega)]; rfl
theorem filter_pos (l : List RefE) (nm : ByteArray) (s : Nat) (hs : s < l.length) (hsp : posE l nm = s) : (l.take (s + 1)).filter (fun x => !eqB x.1 nm) = l.take s := by
  have hat := posE_at l nm (by omega)
  have h1 : (l.take s).filter (fun x => !eqB x.1 nm) = l.take s := List.filter_eq_self.mpr fun x hx => by
    obtain ⟨k, hk, rfl⟩ := List.getElem_of_mem hx
    rw [List.length_take] at hk
    rw [List.getElem_take, posE_bef l nm k (by omega)]; rfl
  rw [List.take_succ_eq_append_getElem hs, List.filter_append, h1]
  subst hsp
  simp [hat]
theorem DelI.below {w wr w5 : World} {g off cap : Nat} {l : List RefE} {nm : ByteArray} {p : Addr} {i j : Nat} {m : List RefE} (h : DelI w wr g off cap l nm p i j m) (hb : Below wr.heap.size wr w5) : DelI w w5 g off cap l nm p i j m :=
  ⟨h.len, h.good, h.head, h.tail, rw_below h.row hb, ⟨hb.os.trans h.grown.os, hb.tape.trans h.grown.tape, hb.output.trans h.grown.output, Nat.le_trans h.grown.size hb.size, fun k hk hn => (hb.block k (Nat.lt_of_lt_of_le hk h.grown.size)).trans (h.grown.block k hk hn)⟩, pw_cell_below hb h.cell⟩
/-- What is left, once all have been looked at, is cleared. -/
theorem DelI.done {w wr : World} {g off cap : Nat} {l : List RefE} {nm : ByteArray} {p : Addr} {i : Nat} {m : List RefE} (h : DelI w wr g off cap l nm p i l.length m) (hi : i < l.length) (hc : l.length ≤ cap) :
    i = (sansE l nm).length ∧ ∃ w', (Builtin.clear_ #[22] 0 #[.slice (some ⟨g, off + i * 33, none⟩) (l.length - i) (cap - i)]).run Try.prog wr = .ok (.tuple #[]) w' ∧ Rw w' 54 33 (.slice (some ⟨g, off, none⟩) i cap) i (rcells (sansE l nm)) ∧ w.grownBy w' (some g) := by
  have hh := h.head
  rw [List.take_of_length_le (Nat.le_refl l.length)] at hh
  have hlen : (m.take i).length = i := by rw [List.length_take, h.len]; omega
  have hz : ∀ w, (zeroValue 54).run Try.prog w = .ok (.agg zc54) w := by
    obtain ⟨i0, hi0, hz0, hs0, hb0⟩ := info_parts Sl2.infoE
    exact fun w => by simp [zeroValue, typeInfo, hi0, hz0]
  have hcut := h.row.cut (k := i) (by omega)
  rw [rcells_take m h.good, hh] at hcut
  obtain ⟨w', hr, hR, hG⟩ := run_clear_rw (P := Try.prog) wr 22 54 0 _ Sl2.uT hz 33 rfl (by intro u hu; simp [Value.cells] at hu; rcases hu with rfl | rfl <;> rfl) hcut (l.length - i) (cap - i) (by omega)
  have hG0 := h.grown
  refine ⟨by rw [← hlen, hh]; rfl, w', hr, hR, ⟨hG.os.trans hG0.os, hG.tape.trans hG0.tape, hG.output.trans hG0.output, Nat.le_trans hG0.size hG.size, fun j hj hjn => (hG.block j (Nat.lt_of_lt_of_le hj hG0.size) hjn).trans (hG0.block j hj hjn)⟩⟩
set_option maxHeartbeats 2000000 in
set_option maxRecDepth 100000 in
theorem delete_at (w : World) (g off cap : Nat) (l : List RefE) (h : Rw w 54 33 (.slice (some ⟨g, off, none⟩) l.length cap) l.length (rcells l)) (hgd : Good32 l) (hl : l.length ≤ 1000000) (p : Addr) (nm : ByteArray) (hp : w.cell? p = some (.string nm)) (hpg : p.block ≠ g)
    (s : Nat) (hs : s < l.length) (hsp : posE l nm = s) :
    Calls Try.prog 46 #[.slice (some ⟨g, off, none⟩) l.length cap, .func (.func 47) #[] #[.pointer (some p)]] w fun e w' =>
      ∃ c, e = .returned (.slice (some ⟨g, off, none⟩) (sansE l nm).length c) ∧ Rw w' 54 33 (.slice (some ⟨g, off, none⟩) (sansE l nm).length c) (sansE l nm).length (rcells (sansE l nm)) ∧ w.grownBy w' (some g) := by
  obtain ⟨A, c, hv, hrd⟩ := RdL.of_rw h hgd
  obtain ⟨rfl, rfl⟩ : A = some ⟨g, off, none⟩ ∧ c = cap := by injection hv with h1 h2 h3; exact ⟨h1.symm, h3.symm⟩
  have hcap := hrd.cap
  have HRD := Aside0.mk hrd
  have HP := Aside0.mk hp
  have HPG := Aside0.mk hpg
  have HGD := Aside0.mk hgd
  have HBF := Aside0.mk (posE_bef l nm)
  have HAT := Aside0.mk (posE_at l nm)
  have HV := Aside0.mk (show ixE l.length (posE l nm) = (s : Int) by unfold ixE; rw [hsp, if_pos hs])
  have hi0 : DelI w w g off c l nm p s (s + 1) l := ⟨rfl, hgd, by rw [filter_pos l nm s hs hsp], rfl, h, World.grownBy.refl w _, hp⟩
  have HI := Aside0.mk hi0
  clear h hrd hv hp hpg hsp hgd hi0
  have hs1 : (s : Int) + 1 ≤ (l.length : Int) := by omega
  have hneg : ((s : Int) == -1) = false := beq_eq_false_iff_ne.mpr (by omega)
  go_enter Try.func46, Try.ntmps46
  go_wp2_with (go_at_call 42; refine (index47 _ _ _ _ HRD.out hl _ nm HP.out (posE l nm) (posE_le l nm) HBF.out HAT.out).mono ?_; rw [HV.out]; rintro e w5 ⟨rfl, hb5⟩; have HI5 := Aside0.mk (HI.out.below hb5); clear hb5)
  go_loopw [5, 6] (fun v5 v6 w' => ∃ (i j : Nat) (m : List RefE), v5 = .int .i64 (i : Int) ∧ v6 = .int .i64 (j : Int) ∧ i < j ∧ j ≤ l.length ∧ Aside0 (DelI w w' g off c l nm p i j m)) (fun _ v6 _ => l.length - (intOf v6).toNat)
  case atStart => exact ⟨s, s + 1, l, rfl, by first | rfl | go_num, Nat.lt_succ_self _, by omega, HI5⟩
  case round =>
    obtain ⟨i, j, m, rfl, rfl, hij, hj, HD⟩ := hrel
    by_cases hlt : j < l.length
    · have e1 : decide ((j : Int) < (l.length : Int)) = true := decide_eq_true (by omega)
      have e3 : (0 : Int) ≤ (j : Int) := by omega
      have e4 : (j : Int) < (l.length : Int) := by omega
      have e5 : (0 : Int) ≤ (i : Int) := by omega
      have e6 : (i : Int) < (l.length : Int) := by omega
      have hx32 := HGD.out l[j] (List.getElem_mem hlt)
      have hload : (Instr.loadAt 54 (.pointer (some ⟨g, off + j * 33, none⟩))).run Try.prog wr = .ok (.agg (.string l[j].1 :: idc l[j].2).toArray) wr := by
        have hj2 : j < m.length := by rw [HD.out.len]; exact hlt
        refine run_loadAt_any wr ⟨g, off + j * 33, none⟩ 54 (rcell l[j]) _ (fun q v hv => ?_) Try.underlying54 rfl (by rw [show (Try.prog.info? 54).map (·.size) = some 33 by kernel_rfl, rcell_length hx32])
        have hq : q < 33 := by
          have := (List.getElem?_eq_some_iff.mp hv).1
          rw [rcell_length hx32] at this
          exact this
        rw [add_, Nat.add_assoc]
        refine HD.out.row.cell ?_
        rw [rcells_at m HD.out.good j hj2 q hq, HD.out.at hlt]
        exact hv
      obtain ⟨w1, hstore, hb1, hsz1, _, hld1⟩ := box_ref2 wr l[j].1 l[j].2 hx32
      have HSK := Aside0.mk (fun (he : eqB l[j].1 nm = true) (w5 : World) hb => HD.out.skip hlt he (w5 := w5) hb)
      have HKP := Aside0.mk (fun (he : eqB l[j].1 nm = false) (w5 w6 : World) hb hr hg => HD.out.keep hij hlt he hx32 (w5 := w5) (w6 := w6) hb HPG.out hr hg)
      obtain ⟨nx, hnx⟩ : ∃ nx, l[j].1 = nx := ⟨_, rfl⟩
      obtain ⟨x, hx⟩ : ∃ x, l[j].2 = x := ⟨_, rfl⟩
      have hpair : l[j] = (nx, x) := by rw [← hnx, ← hx]
      rw [hpair] at HSK HKP hx32 hload hstore hld1
      have HX32 := Aside0.mk hx32
      have hl1 := hld1 w1 (hsz1 ▸ Below.refl _ _)
      have HLD1 := Aside0.mk hld1
      have HSZ1 := Aside0.mk hsz1
      have HB1 := Aside0.mk hb1
      have HP1 := Aside0.mk (pw_cell_below hb1 HD.out.cell)
      clear hld1 hsz1 hb1 hpair hnx hx hx32
      cases hb : eqB nx nm with
      | true =>
        have HBQ := Aside0.mk hb
        clear hb
        go_wp2_with (go_at_call 47; refine (clo47 _ nx x p nm HP1.out).mono ?_; rw [HBQ.out]; rintro e w5 ⟨rfl, hb5⟩; have HS5 := Aside0.mk (HSK.out HBQ.out w5 (HB1.out.trans (hb5.mono HB1.out.size))); clear hb5)
        go_roundw
        case rel => exact ⟨i, j + 1, m, rfl, by go_num, by omega, by omega, HS5⟩
        case measure => simp [intOf]; omega
      | false =>
        have HBQ := Aside0.mk hb
        clear hb
        go_wp2_with (go_at_call 47; refine (clo47 _ nx x p nm HP1.out).mono ?_; rw [HBQ.out]; rintro e w5 ⟨rfl, hb5⟩; have hl5 := HLD1.out w5 (HSZ1.out ▸ hb5); have hb5b := HB1.out.trans (hb5.mono HB1.out.size); obtain ⟨w6, hst6, hR6, hG6⟩ := store_el (rw_below HD.out.row hb5b) HD.out.good HD.out.len i (by omega) nx x HX32.out; have HS6 := Aside0.mk (HKP.out HBQ.out w5 w6 hb5b hR6 hG6); clear hb5 hb5b hR6 hG6)
        go_roundw
        case rel => exact ⟨i + 1, j + 1, _, by go_num, by go_num, by omega, by omega, HS6⟩
        case measure => simp [intOf]; omega
    · have e1 : decide ((j : Int) < (l.length : Int)) = false := decide_eq_false (by omega)
      obtain rfl : j = l.length := by omega
      have e5 : (0 : Int) ≤ (i : Int) := by omega
      have e6 : (i : Int) ≤ (l.length : Int) := by omega
      have e7 : (i : Int) ≤ (c : Int) := by omega
      have e8 : (c = i) = False := eq_false (by omega)
      obtain ⟨hlen, w6, hcl, hR6, hG6⟩ := HD.out.done (by omega) (by omega)
      have HR6 := Aside0.mk hR6
      have HG6 := Aside0.mk hG6
      have HLEN := Aside0.mk hlen
      clear hR6 hG6 hlen
      go_wp2
      go_ret
      exact ⟨c, by rw [← HLEN.out]; rfl, by rw [← HLEN.out]; exact HR6.out, HG6.out⟩
end Go.Proofs.Ytklbemgepeleoaa.Rf
