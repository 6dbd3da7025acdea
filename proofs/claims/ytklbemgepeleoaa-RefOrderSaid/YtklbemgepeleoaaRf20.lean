/- All updates, one behind the other, as the document has them. -/
import Derived.Test.YtklbemgepeleoaaRf19
set_option linter.unusedVariables false
set_option linter.unusedSimpArgs false
namespace Go.Proofs.Ytklbemgepeleoaa.Rf
open Go.RowKit Go.Proofs.Ytklbemgepeleoaa.Lk Go.Proofs.YtklbemgepeleoaaW.PrintWords Go.Proofs.YtklbemgepeleoaaW.PrintLast Go.Proofs.YtklbemgepeleoaaW.PrintMore
def drunE (us : List UpE) (l : List RefE) : Nat → List RefE × List Int
  | 0 => (l, [])
  | i + 1 => match us[i]? with
    | some x => (if wrongE (drunE us l i).1 (us.take i) x = 0 then setE (drunE us l i).1 x.1 x.2.2 else (drunE us l i).1, (drunE us l i).2 ++ [wrongE (drunE us l i).1 (us.take i) x])
    | none => drunE us l i
def dupdE (us : List UpE) (l : List RefE) (all : Bool) : List RefE × List Int := if (all && badB (drunE us l us.length).2) = true then (l, (drunE us l us.length).2.map fixI) else drunE us l us.length
structure UpdQ (w w' : World) (us : List UpE) (l : List RefE) (all : Bool) (v t : Value) : Prop where
  row : Rw w' 54 33 v (dupdE us l all).1.length (rcells (dupdE us l all).1)
  good : Good32 (dupdE us l all).1
  few : (dupdE us l all).1.length ≤ 64
  trow : Rw w' 3 1 t us.length (icells (dupdE us l all).2)
  tl : (dupdE us l all).2.length = us.length
  below : Below w.heap.size w w'
/-- How many are told that they can't be. -/
def cntE (t : List Int) : Nat := (t.filter (fun e => e != 0)).length
theorem cntE_snoc (t : List Int) (e : Int) : cntE (t ++ [e]) = if e = 0 then cntE t else cntE t + 1 := by
  unfold cntE
  by_cases h : e = 0 <;> simp [List.filter_cons, h]
theorem cntE_le (t : List Int) : cntE t ≤ t.length := List.length_filter_le _ _
theorem cntE_bad (t : List Int) : badB t = decide (0 < cntE t) := by
  unfold badB cntE
  rw [Bool.eq_iff_iff, decide_eq_true_iff, List.length_pos_iff_exists_mem, List.any_eq_true]
  simp
structure UpJ (w wr : World) (l : List RefE) (us : List UpE) (i : Nat) (v t : Value) (out : List RefE) (told : List Int) : Prop where
  runs : drunE us l i = (out, told)
  row : Rw wr 54 33 v out.length (rcells out)
  good : Good32 out
  few : out.length ≤ 64
  tl : told.length = i
  trow : Rw wr 3 1 t i (icells told)
  below : Below w.heap.size w wr
  tfresh : ∀ k, t.ownBlock = some k → w.heap.size ≤ k
theorem wrongE_few {l : List RefE} {pre : List UpE} {nm : ByteArray} {x z : List Int} (h : wrongE l pre (nm, x, z) = 0) : (setE l nm z).length ≤ 64 := by
  unfold wrongE at h
  split at h
  · split at h
    · split at h
      · assumption
      · exact absurd h (by decide)
    · exact absurd h (by decide)
  · exact absurd h (by decide)
/-- What was told is appended. -/
theorem UpJ.told {w wr w5 w6 : World} {l : List RefE} {us : List UpE} {i : Nat} {v t : Value} {out : List RefE} {told : List Int} (h : UpJ w wr l us i v t out told) (E : Int)
    (hb5 : Below wr.heap.size wr w5) (hG6 : (w5.alloc (.cells #[.int .i64 E] 3)).grownBy w6 t.ownBlock) : Below w.heap.size w w6 ∧ Rw w6 54 33 v out.length (rcells out) := by
  have hbw5 : Below w.heap.size w w5 := h.below.trans (hb5.mono h.below.size)
  have ht5 : Rw w5 3 1 t i (icells told) := rw_below h.trow hb5
  have hr5 := rw_below h.row hb5
  exact ⟨pw_below_grown (hbw5.alloc hbw5.size _) t.ownBlock (Nat.le_trans hbw5.size (by simp)) hG6 h.tfresh, rw_grown (hr5.alloc _) hG6 (fun k hk => rw_type_ne hr5 ht5 (by decide) k hk)⟩
theorem UpJ.next {w wr w5 w6 w7 : World} {l : List RefE} {us : List UpE} {i : Nat} {v t v7 t6 : Value} {out : List RefE} {told : List Int} (h : UpJ w wr l us i v t out told) (hi : i < us.length) (nm : ByteArray) (x z : List Int) (hx : us[i] = (nm, x, z)) (E : Int)
    (hb5 : Below wr.heap.size wr w5) (hE : E = wrongE out (us.take i) (nm, x, z)) (hbw6 : Below w.heap.size w w6)
    (hR6 : Rw w6 3 1 t6 (i + 1) (icells (told ++ [E]))) (ht6 : ∀ k, t6.ownBlock = some k → t.ownBlock = some k ∨ w5.heap.size ≤ k) (hb7 : Below w6.heap.size w6 w7)
    (h0 : E ≠ 0 → Rw w6 54 33 v out.length (rcells out) ∧ v7 = v) (h1 : E = 0 → Rw w7 54 33 v7 (setE out nm z).length (rcells (setE out nm z)) ∧ Good32 (setE out nm z)) :
    ∃ out', UpJ w w7 l us (i + 1) v7 t6 out' (told ++ [E]) := by
  have hbw5 : Below w.heap.size w w5 := h.below.trans (hb5.mono h.below.size)
  have hbw7 : Below w.heap.size w w7 := hbw6.trans (hb7.mono hbw6.size)
  have hfr : ∀ k, t6.ownBlock = some k → w.heap.size ≤ k := fun k hk => by
    rcases ht6 k hk with h1 | h1
    · exact h.tfresh k h1
    · exact Nat.le_trans hbw5.size h1
  by_cases hz0 : E = 0
  · obtain ⟨hR7, hG7⟩ := h1 hz0
    refine ⟨setE out nm z, ?_, hR7, hG7, ?_, by rw [List.length_append, h.tl]; rfl, rw_below hR6 hb7, hbw7, hfr⟩
    · rw [drunE, h.runs, List.getElem?_eq_getElem hi, hx]
      simp only []
      rw [← hE, if_pos hz0]
    · exact wrongE_few (hE.symm.trans hz0)
  · obtain ⟨hR, rfl⟩ := h0 hz0
    refine ⟨out, ?_, rw_below hR hb7, h.good, h.few, by rw [List.length_append, h.tl]; rfl, rw_below hR6 hb7, hbw7, hfr⟩
    rw [drunE, h.runs, List.getElem?_eq_getElem hi, hx]
    simp only []
    rw [← hE, if_neg hz0]
theorem info3 : (Try.prog.info? 3).map (fun i => (i.zero, i.size, i.bytes)) = some (some (.int .i64 0), 1, 8) := by kernel_rfl
theorem build_int (E : Int) (w : World) : (Instr.buildSlice 31 1 #[(0, .int .i64 E)]).run Try.prog w = .ok (.slice (some ⟨w.heap.size, 0, none⟩) 1 1) (w.alloc (.cells #[.int .i64 E] 3)) := by kernel_rfl
theorem build_none (w : World) : (Instr.buildSlice 22 0 #[]).run Try.prog w = .ok (.slice (some ⟨w.heap.size, 0, none⟩) 0 0) (w.alloc (.cells #[] 54)) := by kernel_rfl
/-- told = append(told, e). -/
theorem append_int {w5 : World} {t : Value} {i : Nat} {told : List Int} (h : Rw w5 3 1 t i (icells told)) (hi : i ≤ 1000000) (E : Int) :
    ∃ t6 w6, (Builtin.append_ #[31, 31] 31 #[t, .slice (some ⟨w5.heap.size, 0, none⟩) 1 1]).run Try.prog (w5.alloc (.cells #[.int .i64 E] 3)) = .ok t6 w6 ∧ Rw w6 3 1 t6 (i + 1) (icells (told ++ [E])) ∧ (w5.alloc (.cells #[.int .i64 E] 3)).grownBy w6 t.ownBlock ∧
      ∀ k, t6.ownBlock = some k → t.ownBlock = some k ∨ w5.heap.size ≤ k := by
  obtain ⟨i0, hi0, hz0, hs0, hb0⟩ := info_parts info3
  have hcell : ∀ j u, [Value.int .i64 E][j]? = some u → (w5.alloc (.cells #[.int .i64 E] 3)).cell? ((⟨w5.heap.size, 0, none⟩ : Addr).add j) = some u := fun j u hj => by
    rw [add_, Nat.zero_add, cell_of_row _ _ j _ _ (0, 0) (heap_alloc_last w5 _)]
    simpa using hj
  obtain ⟨t6, w6, hr, hR, hG, ho⟩ := run_append_rw (P := Try.prog) (w5.alloc (.cells #[.int .i64 E] 3)) 31 31 3 i0 _ 1 8 (by kernel_rfl) hi0 hz0 hs0 hb0 rfl t i (icells told) (h.alloc _) ⟨w5.heap.size, 0, none⟩ 1 1 [.int .i64 E] rfl hcell (by intro u hu; simp at hu; subst hu; rfl) (by omega) (by simp only [maxLen]; omega) (by omega)
  refine ⟨t6, w6, hr, by simpa [icells] using hR, hG, fun k hk => ?_⟩
  rcases ho with h1 | h1
  · exact .inl (h1 ▸ hk)
  · rw [h1] at hk
    injection hk with hk
    exact .inr (by simp at hk; omega)
/-- What is told, from the first on, as far as it has been turned. -/
structure FixJ (w wr : World) (us : List UpE) (t : Value) (told : List Int) (k : Nat) : Prop where
  len : told.length = us.length
  trow : Rw wr 3 1 t us.length (icells ((told.take k).map fixI ++ told.drop k))
  below : Below w.heap.size w wr
/-- A number into a row. -/
theorem store_int {w : World} {n g off cap : Nat} {m : List Int} (h : Rw w 3 1 (.slice (some ⟨g, off, none⟩) n cap) n (icells m)) (hn : m.length = n) (i : Nat) (hi : i < n) (E : Int) :
    ∃ w', (Instr.storeAt 3 (.pointer (some ⟨g, off + i, none⟩)) (.int .i64 E)).run Try.prog w = .ok () w' ∧ Rw w' 3 1 (.slice (some ⟨g, off, none⟩) n cap) n (icells (m.set i E)) ∧ w.grownBy w' (some g) := by
  obtain ⟨cur, hg, hnn, hmx, hs, hxx⟩ := h.open_
  obtain ⟨i0, hi0, hz0, hs0, hb0⟩ := info_parts info3
  have hst := run_storeCells_at Try.prog g (off + i) 3 [.int .i64 E] 0 cur w hg (by simp; omega) (by intro u hu; simp at hu; subst hu; rfl)
  simp only [Nat.add_zero] at hst
  obtain ⟨cur', hcur'⟩ : ∃ c, c = (cur.toList.take (off + i) ++ [Value.int .i64 E] ++ cur.toList.drop (off + i + [Value.int .i64 E].length)).toArray := ⟨_, rfl⟩
  rw [← hcur'] at hst
  refine ⟨w.setRow g cur', ?_, ?_, ⟨rfl, rfl, rfl, by simp, fun j _ hj => setRow_other w g j _ (fun e => hj (by rw [e]))⟩⟩
  · simp only [Instr.storeAt, Instr.sureAddr, Sem.run_bind, Sem.run_pure, Result.andThen_ok]
    have : (storeVar 3 ⟨g, off + i, none⟩ (.int .i64 E)).run Try.prog w = .ok () (w.setRow g cur') := by
      simpa [storeVar, sizeOf, typeInfo, hi0, Value.cells, hs0] using hst
    exact this
  · have hset := h.set_ i 1 (by omega) [.int .i64 E] rfl cur hg
    rw [hcur']
    have e : icells (m.set i E) = (icells m).take i ++ [.int .i64 E] ++ (icells m).drop (i + 1) := by
      unfold icells
      rw [List.map_set, List.set_eq_take_append_cons_drop, if_pos (by simp; omega)]
      simp
    rw [e]
    simpa using hset
theorem FixJ.next {w wr w5 : World} {us : List UpE} {t : Value} {told : List Int} {k : Nat} (h : FixJ w wr us t told k) (hk : k < told.length) (E : Int) (hE : E = fixI told[k]) (hR : Rw w5 3 1 t us.length (icells (((told.take k).map fixI ++ told.drop k).set k E))) (hg : wr.grownBy w5 t.ownBlock) (ht : ∀ k, t.ownBlock = some k → w.heap.size ≤ k) : FixJ w w5 us t told (k + 1) :=
  ⟨h.len, by rw [← fix_next hk, ← hE]; exact hR, pw_below_grown h.below _ h.below.size hg ht⟩
theorem FixJ.same {w wr : World} {us : List UpE} {t : Value} {told : List Int} {k : Nat} (h : FixJ w wr us t told k) (hk : k < told.length) (hE : told[k] = fixI told[k]) : FixJ w wr us t told (k + 1) := by
  have e : (told.take (k + 1)).map fixI ++ told.drop (k + 1) = (told.take k).map fixI ++ told.drop k := by
    rw [List.take_succ_eq_append_getElem hk, List.map_append, List.append_assoc, List.drop_eq_getElem_cons hk]
    simp [← hE]
  exact ⟨h.len, by rw [e]; exact h.trow, h.below⟩
theorem FixJ.done {w wr w5 : World} {l : List RefE} {us : List UpE} {t v : Value} {out : List RefE} {told : List Int} (h : FixJ w wr us t told us.length) (hr : drunE us l us.length = (out, told)) (hb : badB told = true) (hg : Good32 l) (hl : l.length ≤ 64) (hb5 : Below wr.heap.size wr w5) (hR : Rw w5 54 33 v l.length (rcells l)) : UpdQ w w5 us l true v t := by
  have e : dupdE us l true = (l, told.map fixI) := by
    unfold dupdE
    rw [hr, if_pos (by rw [hb]; rfl)]
  have ht := rw_below h.trow hb5
  rw [List.take_of_length_le (by rw [h.len]; exact Nat.le_refl _), List.drop_of_length_le (by rw [h.len]; exact Nat.le_refl _), List.append_nil] at ht
  exact ⟨by rw [e]; exact hR, by rw [e]; exact hg, by rw [e]; exact hl, by rw [e]; exact ht, by rw [e]; simp [h.len], h.below.trans (hb5.mono h.below.size)⟩
/-- All that was is copied. -/
theorem append_copy (w : World) (A : Option Addr) (c : Nat) (l : List RefE) (h : RdL w A c l) (hl : l.length ≤ 1000000) :
    ∃ v6 w6, (Builtin.append_ #[22, 22] 22 #[.slice (some ⟨w.heap.size, 0, none⟩) 0 0, .slice A l.length c]).run Try.prog (w.alloc (.cells #[] 54)) = .ok v6 w6 ∧ Rw w6 54 33 v6 l.length (rcells l) ∧ Below w.heap.size w w6 := by
  obtain ⟨i0, hi0, hz0, hs0, hb0⟩ := info_parts Sl2.infoE
  have hR0 : Rw (w.alloc (.cells #[] 54)) 54 33 (.slice (some ⟨w.heap.size, 0, none⟩) 0 0) 0 [] :=
    ⟨by simp, .inr ⟨w.heap.size, 0, 0, #[], rfl, heap_alloc_new w _, Nat.le_refl _, by simp [maxLen], by simp, by simp⟩⟩
  have hbA : Below w.heap.size w (w.alloc (.cells #[] 54)) := (Below.refl _ _).alloc (Nat.le_refl _) _
  by_cases h0 : l.length = 0
  · have hl0 : l = [] := List.eq_nil_of_length_eq_zero h0
    subst hl0
    refine ⟨_, _, ?_, hR0, hbA⟩
    simp [Builtin.append_, run_underlying Sl2.uT, sizeOf, typeInfo, hi0, Builtin.lenOf, Builtin.firstCells, storeCells]
    cases A <;> simp [Builtin.firstCells, storeCells, loadCells, loadCellsFrom]
  · obtain ⟨a, rfl, _⟩ := h.at 0 (by omega)
    have hA : ∀ j u, (rcells l)[j]? = some u → (w.alloc (.cells #[] 54)).cell? (a.add j) = some u := fun j u hj => by
      obtain ⟨a', e, hc⟩ := h.cell j u hj
      obtain rfl := Option.some.inj e
      exact pw_cell_below hbA hc
    obtain ⟨cap', w1, hr1, hR1, hB1⟩ := run_append_full (P := Try.prog) (w.alloc (.cells #[] 54)) 22 22 54 i0 _ 33 48 Sl2.uT hi0 hz0 hs0 hb0 rfl hR0 a l.length c (rcells l) (rcells_length l h.good) hA (by omega) (by omega) (by simp only [maxLen]; omega) (by omega)
    rw [Nat.zero_add] at hr1 hR1
    rw [List.nil_append] at hR1
    exact ⟨_, _, hr1, hR1, hbA.trans (hB1.mono hbA.size)⟩
attribute [local go_sem] max2_int min2_int max_two min_two max_three min_three max_four min_four
attribute [-simp] Try.isAgg37 Try.isAgg54 Try.isAgg39
attribute [-go_sem] Instr.loadAt Instr.storeAt Instr.build Instr.buildSlice run_equalIn_agg
attribute [local go_sem] loadAt9 loadAt3 loadAt28
theorem UpJ.done {w wr : World} {l : List RefE} {us : List UpE} {all : Bool} {v t : Value} {out : List RefE} {told : List Int} (h : UpJ w wr l us us.length v t out told) (ha : (all && badB told) = false) : UpdQ w wr us l all v t := by
  have e : dupdE us l all = (out, told) := by
    unfold dupdE
    rw [h.runs, if_neg (by rw [ha]; simp)]
  exact ⟨by rw [e]; exact h.row, by rw [e]; exact h.good, by rw [e]; exact h.few, by rw [e]; exact h.trow, by rw [e]; exact h.tl, h.below⟩
set_option maxHeartbeats 4000000 in
set_option maxRecDepth 100000 in
theorem docupdate_calls (w : World) (A B : Option Addr) (c d : Nat) (l : List RefE) (us : List UpE) (all : Bool) (h : RdL w A c l) (hu : RdU w B d us) (hun : ∀ x ∈ us, x.1.size ≤ 1000000) (hl : l.length ≤ 64) (hul : us.length ≤ 100000) :
    Calls Try.prog 12 #[.slice A l.length c, .slice B us.length d, .bool all] w fun e w' => ∃ v t, e = .returned (.tuple #[v, t]) ∧ UpdQ w w' us l all v t := by
  have HRD := Aside0.mk h
  have HRU := Aside0.mk hu
  have HUN := Aside0.mk hun
  have hcap := hu.cap
  obtain ⟨v0, w0, hap0, hR0, hb0⟩ := append_copy w A c l h (by omega)
  have HJ0 := Aside0.mk (UpJ.mk rfl hR0 h.good hl rfl (Rw.nil w0 3 1) hb0 (fun k hk => by simp [Value.ownBlock] at hk) : UpJ w w0 l us 0 v0 (.slice none 0 0) l [])
  have hbn := fun W => build_none W
  clear h hu hun hR0 hb0
  go_enter Try.func12, Try.ntmps12
  go_wp2_with (at_builtin; refine Lib.wpList_append_run _ rfl _ _ _ _ rfl _ _ rfl rfl _ _ hap0 ?_)
  clear hap0
  go_loopw [8, 9, 10, 11] (fun v8 v9 v10 v11 w' => ∃ (i : Nat) (out' : List RefE) (told' : List Int), v10 = .int .i64 ((cntE told' : Nat) : Int) ∧ v11 = .int .i64 (i : Int) ∧ i ≤ us.length ∧ Aside0 (UpJ w w' l us i v8 v9 out' told')) (fun _ _ _ v11 _ => us.length - (intOf v11).toNat)
  case atStart => exact ⟨0, l, [], rfl, rfl, Nat.zero_le _, HJ0⟩
  case round =>
    clear HJ0
    obtain ⟨i, out', told', hv10, rfl, hi, HU⟩ := hrel
    obtain ⟨A8, c8, hv8, hrd8⟩ := RdL.of_rw HU.out.row HU.out.good
    subst hv8
    have HRD8 := Aside0.mk hrd8
    clear hrd8
    obtain ⟨m, hm⟩ : ∃ m, cntE told' = m := ⟨_, rfl⟩
    have hmi : m ≤ us.length := by rw [← hm]; have := cntE_le told'; have := HU.out.tl; omega
    rw [hm] at hv10
    subst hv10
    have HM := Aside0.mk hm
    clear hm
    by_cases hlt : i < us.length
    · have e1 : decide ((i : Int) < (us.length : Int)) = true := decide_eq_true (by omega)
      obtain ⟨nm, hnm⟩ : ∃ x, us[i].1 = x := ⟨_, rfl⟩
      obtain ⟨x, hxx⟩ : ∃ x, us[i].2.1 = x := ⟨_, rfl⟩
      obtain ⟨z, hzz⟩ : ∃ x, us[i].2.2 = x := ⟨_, rfl⟩
      have HX := Aside0.mk (show us[i] = (nm, x, z) by rw [← hnm, ← hxx, ← hzz])
      have HZ := Aside0.mk (show z.length = 32 from hzz ▸ (HRU.out.good us[i] (List.getElem_mem hlt)).2)
      have HNM := Aside0.mk (show nm.size ≤ 1000000 from hnm ▸ HUN.out us[i] (List.getElem_mem hlt))
      have b1 : (0 : Int) ≤ (i : Int) := by omega
      have b2 : (i : Int) < (us.length : Int) := by omega
      obtain ⟨b, hBb, _⟩ := HRU.out.at i hlt
      subst hBb
      have HUF := Aside0.mk (HRU.out.updF i hlt nm x z HX.out)
      have HRU2 := Aside0.mk (HRU.out.below HU.out.below)
      clear hnm hxx hzz
      have HWC := Aside0.mk (wrong_calls wr _ _ _ _ out' us HRD8.out HRU2.out (Nat.le_trans HU.out.few (by omega)) hul i hlt nm x z HX.out HNM.out (us.take i) rfl)
      obtain ⟨E, hE⟩ : ∃ E, wrongE out' (us.take i) (nm, x, z) = E := ⟨_, rfl⟩
      rw [hE] at HWC
      have HE := Aside0.mk hE.symm
      clear hE
      by_cases h0 : E = 0
      · subst h0
        go_wp2_with (first | (go_at_call 25; refine HWC.out.mono ?_; rintro e w5 ⟨rfl, hb5⟩; obtain ⟨t6, w6, hap, hR6, hG6, ht6⟩ := append_int (rw_below HU.out.trow hb5) (by omega) 0; obtain ⟨hbw6, hrow6⟩ := HU.out.told 0 hb5 hG6; have HBB := Aside0.mk hb5; have HR6 := Aside0.mk hR6; have HT6 := Aside0.mk ht6; have HBW6 := Aside0.mk hbw6; have HROW6 := Aside0.mk hrow6; have hbs := build_int 0 w5; have y6 := HUF.out.name w6 hbw6; have z6 : (Instr.loadAt 37 (.pointer (some ⟨(b.add (i * 65)).block, (b.add (i * 65)).off + 33, none⟩))).run Try.prog w6.drew = .ok (.agg (idc z).toArray) w6.drew := HUF.out.new w6.drew (pw_below_drewN hbw6 1); clear hb5 hR6 hG6 ht6 hbw6 hrow6) | (at_builtin; refine Lib.wpList_append_run _ rfl _ _ _ _ rfl _ _ rfl rfl _ _ hap ?_))
        go_still_tail 11, (by kernel_rfl)
        have HRD6 := Aside0.mk (RdL.below (w := w6) (w' := w6.drew) (A := A8) (c := c8) (l := out') (by
          obtain ⟨A', c', hv, hrd⟩ := RdL.of_rw HROW6.out HU.out.good
          injection hv with h1 h2 h3
          rw [h1, h3]
          exact hrd) (pw_below_drewN (Below.refl _ _) 1))
        go_wp2_with (go_at_call 26; refine (docset_calls _ _ _ out' HRD6.out (Nat.le_trans HU.out.few (by omega)) nm z HZ.out).mono ?_; rintro e w7 ⟨v7, rfl, hR7, hG7, hb7⟩; obtain ⟨out7, hu7⟩ := HU.out.next hlt nm x z HX.out 0 HBB.out HE.out HBW6.out HR6.out HT6.out ((pw_below_drewN (Below.refl _ _) 1).trans hb7) (fun e => absurd rfl e) (fun _ => ⟨hR7, hG7⟩); have HU7 := Aside0.mk hu7; clear hR7 hG7 hb7 hu7)
        go_roundw
        case rel => exact ⟨i + 1, out7, told' ++ [0], by rw [cntE_snoc, if_pos rfl, HM.out], by go_num, by omega, HU7⟩
        case measure => simp [intOf]; omega
      · have c0 : (E == 0) = false := beq_eq_false_iff_ne.mpr h0
        have H0 := Aside0.mk h0
        clear h0
        go_wp2_with (first | (go_at_call 25; refine HWC.out.mono ?_; rintro e w5 ⟨rfl, hb5⟩; obtain ⟨t6, w6, hap, hR6, hG6, ht6⟩ := append_int (rw_below HU.out.trow hb5) (by omega) E; obtain ⟨hbw6, hrow6⟩ := HU.out.told E hb5 hG6; have HBB := Aside0.mk hb5; have HR6 := Aside0.mk hR6; have HT6 := Aside0.mk ht6; have HBW6 := Aside0.mk hbw6; have HROW6 := Aside0.mk hrow6; have hbs := build_int E w5; clear hb5 hR6 hG6 ht6 hbw6 hrow6) | (at_builtin; refine Lib.wpList_append_run _ rfl _ _ _ _ rfl _ _ rfl rfl _ _ hap ?_))
        obtain ⟨out7, hu7⟩ := HU.out.next hlt nm x z HX.out E HBB.out HE.out HBW6.out HR6.out HT6.out (Below.refl _ _) (fun _ => ⟨HROW6.out, rfl⟩) (fun e => absurd e H0.out)
        have HU7 := Aside0.mk hu7
        clear hu7
        go_roundw
        case rel => exact ⟨i + 1, out7, told' ++ [E], by rw [cntE_snoc, if_neg H0.out, HM.out]; go_num, by go_num, by omega, HU7⟩
        case measure => simp [intOf]; omega
    · have e1 : decide ((i : Int) < (us.length : Int)) = false := decide_eq_false (by omega)
      obtain rfl : i = us.length := by omega
      cases all with
      | false =>
        have HD := Aside0.mk (HU.out.done (all := false) rfl)
        go_wp2
        go_ret2
        exact ⟨_, _, rfl, HD.out⟩
      | true =>
        by_cases hm0 : m = 0
        · have hbad : badB told' = false := by rw [cntE_bad, HM.out]; exact decide_eq_false (by omega)
          have HD := Aside0.mk (HU.out.done (all := true) (by rw [hbad]; rfl))
          subst hm0
          clear hbad
          go_wp2
          go_ret2
          exact ⟨_, _, rfl, HD.out⟩
        · have HBAD := Aside0.mk (show badB told' = true by rw [cntE_bad, HM.out]; exact decide_eq_true (by omega))
          have c1 : ((m : Int) == 0) = false := beq_eq_false_iff_ne.mpr (by omega)
          have c2 : (m == 0) = false := beq_eq_false_iff_ne.mpr hm0
          have hpos : 0 < us.length := by omega
          obtain ⟨g, off, cap, rfl, hnc, _⟩ := HU.out.trow.form2 hpos
          have HRUNS := Aside0.mk HU.out.runs
          have HTF := Aside0.mk HU.out.tfresh
          have HX0 := Aside0.mk (FixJ.mk HU.out.tl (by simpa using HU.out.trow) HU.out.below : FixJ w wr us (.slice (some ⟨g, off, none⟩) us.length cap) told' 0)
          clear HU HRD8
          obtain ⟨wo, hwo⟩ : ∃ wo : World, wo = wr := ⟨_, rfl⟩
          rw [← hwo] at HX0 ⊢
          clear hwo
          go_wp2
          go_loopw [13] (fun v13 w' => ∃ k : Nat, v13 = .int .i64 (k : Int) ∧ k ≤ us.length ∧ Aside0 (FixJ w w' us (.slice (some ⟨g, off, none⟩) us.length cap) told' k)) (fun v13 _ => us.length - (intOf v13).toNat)
          case atStart => exact ⟨0, rfl, Nat.zero_le _, HX0⟩
          case round =>
            clear HX0
            obtain ⟨k, rfl, hk, HX⟩ := hrel
            by_cases hlt : k < us.length
            · have c1 : decide ((k : Int) < (us.length : Int)) = true := decide_eq_true (by omega)
              have c2 : (0 : Int) ≤ (k : Int) := by omega
              have c3 : (k : Int) < (us.length : Int) := by omega
              have hkt : k < told'.length := by rw [HX.out.len]; exact hlt
              have y1 : wr.cell? ⟨g, off + k, none⟩ = some (.int .i64 told'[k]) := HX.out.trow.cell (by unfold icells; rw [List.getElem?_map, fix_at hkt]; rfl)
              have HNX := Aside0.mk (fun (w5 : World) (E : Int) (hE : E = fixI told'[k]) hR hg => HX.out.next (w5 := w5) hkt E hE hR hg HTF.out)
              have HSM := Aside0.mk (fun (hE : told'[k] = fixI told'[k]) => HX.out.same hkt hE)
              obtain ⟨e, he⟩ : ∃ e, told'[k] = e := ⟨_, rfl⟩
              rw [he] at y1 HNX HSM
              clear he hkt
              by_cases h0 : e = 0
              · have c4 : (e == 0) = true := by rw [h0]; rfl
                obtain ⟨w5, hst, hR5, hG5⟩ := store_int HX.out.trow (by simp; have := HX.out.len; omega) k hlt 12
                have HX5 := Aside0.mk (HNX.out w5 12 (by rw [h0]; rfl) hR5 hG5)
                clear h0 hR5 hG5
                go_wp2
                go_roundw
                case rel => exact ⟨k + 1, by go_num, by omega, HX5⟩
                case measure => simp [intOf]; omega
              · have c4 : (e == 0) = false := beq_eq_false_iff_ne.mpr h0
                have HX5 := Aside0.mk (HSM.out (by unfold fixI; rw [if_neg h0]))
                clear h0
                go_wp2
                go_roundw
                case rel => exact ⟨k + 1, by go_num, by omega, HX5⟩
                case measure => simp [intOf]; omega
            · have c1 : decide ((k : Int) < (us.length : Int)) = false := decide_eq_false (by omega)
              obtain rfl : k = us.length := by omega
              obtain ⟨v6, w6, hap0, hR6, hb6⟩ := append_copy wr A c l (HRD.out.below HX.out.below) (by omega)
              have HD := Aside0.mk (HX.out.done HRUNS.out HBAD.out HRD.out.good hl hb6 hR6)
              clear hR6 hb6
              go_wp2_with (at_builtin; refine Lib.wpList_append_run _ rfl _ _ _ _ rfl _ _ rfl rfl _ _ hap0 ?_)
              go_ret2
              exact ⟨_, _, rfl, HD.out⟩
end Go.Proofs.Ytklbemgepeleoaa.Rf
