/- All updates, one behind the other: parts. -/
import Derived.Test.YtklbemgepeleoaaRf15
set_option linter.unusedVariables false
set_option linter.unusedSimpArgs false
namespace Go.Proofs.Ytklbemgepeleoaa.Rf
open Go.RowKit Go.Proofs.Ytklbemgepeleoaa.Lk Go.Proofs.YtklbemgepeleoaaW.PrintWords Go.Proofs.YtklbemgepeleoaaW.PrintLast Go.Proofs.YtklbemgepeleoaaW.PrintMore
/-- The refs, and what each is told, behind so many updates. -/
def runE (us : List UpE) (l : List RefE) : Nat → List RefE × List Int
  | 0 => (l, [])
  | i + 1 => match us[i]? with
    | some x => (if errE (runE us l i).1 (us.take i) x = 0 then putE (runE us l i).1 x.1 x.2.2 else (runE us l i).1, (runE us l i).2 ++ [errE (runE us l i).1 (us.take i) x])
    | none => runE us l i
def badB (t : List Int) : Bool := t.any (fun e => e != 0)
theorem badB_snoc (t : List Int) (e : Int) : badB (t ++ [e]) = (badB t || (e != 0)) := by simp [badB]
def fixI (e : Int) : Int := if e = 0 then 12 else e
def icells (l : List Int) : List Value := l.map (Value.int .i64)
theorem icells_length (l : List Int) : (icells l).length = l.length := by simp [icells]
theorem icells_one (l : List Int) : ∀ u ∈ icells l, u.oneCell' = true := by
  intro u hu
  obtain ⟨x, _, rfl⟩ := List.mem_map.mp hu
  rfl
structure UpI (w wr : World) (l : List RefE) (us : List UpE) (i : Nat) (v t : Value) (out : List RefE) (told : List Int) : Prop where
  runs : runE us l i = (out, told)
  row : Rw wr 54 33 v out.length (rcells out)
  good : Good32 out
  few : out.length ≤ 64
  tl : told.length = i
  trow : Rw wr 28 1 t i (icells told)
  below : Below w.heap.size w wr
  tfresh : ∀ k, t.ownBlock = some k → w.heap.size ≤ k
theorem rw_type_ne {w : World} {e e' sz sz' n n' : Nat} {v v' : Value} {xs xs' : List Value} (h : Rw w e sz v n xs) (h' : Rw w e' sz' v' n' xs') (hne : e ≠ e') : ∀ k, v.ownBlock = some k → v'.ownBlock ≠ some k := by
  intro k hk hk'
  rcases h.2 with ⟨rfl, _⟩ | ⟨g, off, cap, cur, rfl, hg, _⟩
  · simp [Value.ownBlock] at hk
  rcases h'.2 with ⟨rfl, _⟩ | ⟨g', off', cap', cur', rfl, hg', _⟩
  · simp [Value.ownBlock] at hk'
  have e1 : g = k := by simpa [Value.ownBlock] using hk
  have e2 : g' = k := by simpa [Value.ownBlock] using hk'
  subst e1 e2
  rw [hg] at hg'
  injection hg' with hg'
  injection hg' with _ ht
  exact hne ht
theorem rw_grown {w w' : World} {e sz n : Nat} {v : Value} {xs : List Value} {row : Option Nat} (h : Rw w e sz v n xs) (hg : w.grownBy w' row) (hne : ∀ k, v.ownBlock = some k → row ≠ some k) : Rw w' e sz v n xs :=
  h.of_block fun k hk => hg.block k (h.lt k hk) (fun e => hne k hk e.symm)
/-- One update more: what was told is appended. -/
theorem UpI.next {w wr w5 w6 : World} {l : List RefE} {us : List UpE} {i : Nat} {v t v5 t6 : Value} {out : List RefE} {told : List Int} (h : UpI w wr l us i v t out told) (hi : i < us.length) (nm : ByteArray) (x z : List Int) (hx : us[i] = (nm, x, z)) (hz : z.length = 32) (E : Int)
    (hb5 : Below wr.heap.size wr w5) (hE : E = errE out (us.take i) (nm, x, z)) (h0 : E ≠ 0 → v5 = v) (h1 : E = 0 → Rw w5 54 33 v5 (putE out nm z).length (rcells (putE out nm z)))
    (hR6 : Rw w6 28 1 t6 (i + 1) (icells (told ++ [E]))) (hG6 : (w5.alloc (.cells #[.int .i64 E] 28)).grownBy w6 t.ownBlock) (ht6 : ∀ k, t6.ownBlock = some k → t.ownBlock = some k ∨ w5.heap.size ≤ k) :
    ∃ out', UpI w w6 l us (i + 1) v5 t6 out' (told ++ [E]) := by
  have hbw5 : Below w.heap.size w w5 := h.below.trans (hb5.mono h.below.size)
  have hbw6 : Below w.heap.size w w6 := pw_below_grown (hbw5.alloc hbw5.size _) t.ownBlock (Nat.le_trans hbw5.size (by simp)) hG6 h.tfresh
  have ht5 : Rw w5 28 1 t i (icells told) := rw_below h.trow hb5
  have hfr : ∀ k, t6.ownBlock = some k → w.heap.size ≤ k := fun k hk => by
    rcases ht6 k hk with h1 | h1
    · exact h.tfresh k h1
    · exact Nat.le_trans hbw5.size h1
  by_cases hz0 : E = 0
  · have hR5 := h1 hz0
    refine ⟨putE out nm z, ?_, ?_, h.good.put nm hz, ?_, by rw [List.length_append, h.tl]; rfl, hR6, hbw6, hfr⟩
    · rw [runE, h.runs, List.getElem?_eq_getElem hi, hx]
      simp only []
      rw [← hE, if_pos hz0]
    · exact rw_grown (hR5.alloc _) hG6 (fun k hk => rw_type_ne (hR5) (ht5) (by decide) k hk)
    · rw [hz0] at hE
      unfold errE at hE
      split at hE
      · split at hE
        · split at hE
          · assumption
          · exact absurd hE (by decide)
        · exact absurd hE (by decide)
      · exact absurd hE (by decide)
  · have hv := h0 hz0
    subst hv
    have hR5 := rw_below h.row hb5
    refine ⟨out, ?_, ?_, h.good, h.few, by rw [List.length_append, h.tl]; rfl, hR6, hbw6, hfr⟩
    · rw [runE, h.runs, List.getElem?_eq_getElem hi, hx]
      simp only []
      rw [← hE, if_neg hz0]
    · exact rw_grown (hR5.alloc _) hG6 (fun k hk => rw_type_ne (hR5) (ht5) (by decide) k hk)
theorem one_at (w : World) (A B : Option Addr) (c d : Nat) (l : List RefE) (us : List UpE) (h : RdL w A c l) (hu : RdU w B d us) (hl : l.length ≤ 1000000) (hul : us.length ≤ 1000000) (i : Nat) (hi : i < us.length)
    (nm : ByteArray) (x z : List Int) (hx : us[i] = (nm, x, z)) (hnm : nm.size ≤ 1000000) :
    Calls Try.prog 24 #[.slice A l.length c, .slice B (i + 1) d] w fun e w' => ∃ v E, e = .returned (.tuple #[v, .int .i64 E]) ∧ Below w.heap.size w w' ∧ E = errE l (us.take i) (nm, x, z) ∧
      (E ≠ 0 → v = .slice A l.length c) ∧ (E = 0 → Rw w' 54 33 v (putE l nm z).length (rcells (putE l nm z))) := by
  have hlen : (us.take (i + 1)).length = i + 1 := by rw [List.length_take]; omega
  have := one_calls w A B c d l (us.take (i + 1)) h (hu.take (i + 1)) hl (by omega) (by omega) nm x z (us.take i) (by
    rw [List.getElem_take]
    simp only [hlen, Nat.add_sub_cancel]
    exact hx) (by rw [hlen, Nat.add_sub_cancel, List.take_take, Nat.min_eq_left (by omega)]) hnm
  rw [hlen] at this
  exact this
theorem info28 : (Try.prog.info? 28).map (fun i => (i.zero, i.size, i.bytes)) = some (some (.int .i64 0), 1, 8) := by kernel_rfl
theorem build_err (E : Int) (w : World) : (Instr.buildSlice 27 1 #[(0, .int .i64 E)]).run Try.prog w = .ok (.slice (some ⟨w.heap.size, 0, none⟩) 1 1) (w.alloc (.cells #[.int .i64 E] 28)) := by kernel_rfl
/-- told = append(told, e). -/
theorem append_err {w5 : World} {t : Value} {i : Nat} {told : List Int} (h : Rw w5 28 1 t i (icells told)) (hi : i ≤ 1000000) (E : Int) :
    ∃ t6 w6, (Builtin.append_ #[27, 27] 27 #[t, .slice (some ⟨w5.heap.size, 0, none⟩) 1 1]).run Try.prog (w5.alloc (.cells #[.int .i64 E] 28)) = .ok t6 w6 ∧ Rw w6 28 1 t6 (i + 1) (icells (told ++ [E])) ∧ (w5.alloc (.cells #[.int .i64 E] 28)).grownBy w6 t.ownBlock ∧
      ∀ k, t6.ownBlock = some k → t.ownBlock = some k ∨ w5.heap.size ≤ k := by
  obtain ⟨i0, hi0, hz0, hs0, hb0⟩ := info_parts info28
  have hcell : ∀ j u, [Value.int .i64 E][j]? = some u → (w5.alloc (.cells #[.int .i64 E] 28)).cell? ((⟨w5.heap.size, 0, none⟩ : Addr).add j) = some u := fun j u hj => by
    rw [add_, Nat.zero_add, cell_of_row _ _ j _ _ (0, 0) (heap_alloc_last w5 _)]
    simpa using hj
  obtain ⟨t6, w6, hr, hR, hG, ho⟩ := run_append_rw (P := Try.prog) (w5.alloc (.cells #[.int .i64 E] 28)) 27 27 28 i0 _ 1 8 (by kernel_rfl) hi0 hz0 hs0 hb0 rfl t i (icells told) (h.alloc _) ⟨w5.heap.size, 0, none⟩ 1 1 [.int .i64 E] rfl hcell (by intro u hu; simp at hu; subst hu; rfl) (by omega) (by simp only [maxLen]; omega) (by omega)
  refine ⟨t6, w6, hr, by simpa [icells] using hR, hG, fun k hk => ?_⟩
  rcases ho with h1 | h1
  · exact .inl (h1 ▸ hk)
  · rw [h1] at hk
    injection hk with hk
    exact .inr (by simp at hk; omega)
attribute [local go_sem] max2_int min2_int max_two min_two max_three min_three max_four min_four
attribute [-simp] Try.isAgg37 Try.isAgg54 Try.isAgg39
attribute [-go_sem] Instr.loadAt Instr.storeAt Instr.build Instr.buildSlice run_equalIn_agg
theorem loadAt28 (v : Value) : Instr.loadAt 28 v = (do loadVar 28 (← Instr.sureAddr v)) := rfl
attribute [local go_sem] loadAt9 loadAt3 loadAt28
theorem fine_yes (w : World) (A : Option Addr) (c : Nat) (l : List RefE) (h : RdL w A c l) (hn : ∀ x ∈ l, x.1.size ≤ 1000000) (hl : l.length ≤ 1000000) (hf : Fine l) : Calls Try.prog 14 #[.slice A l.length c] w fun e w' => e = .returned (.bool true) ∧ Below w.heap.size w w' :=
  (fine_calls w A c l h hn hl).mono fun e w' ⟨b, he, hb, hB⟩ => ⟨by rw [he, hb.mpr hf], hB⟩
theorem fine_no (w : World) (A : Option Addr) (c : Nat) (l : List RefE) (h : RdL w A c l) (hn : ∀ x ∈ l, x.1.size ≤ 1000000) (hl : l.length ≤ 1000000) (hf : ¬ Fine l) : Calls Try.prog 14 #[.slice A l.length c] w fun e w' => e = .returned (.bool false) ∧ Below w.heap.size w w' :=
  (fine_calls w A c l h hn hl).mono fun e w' ⟨b, he, hb, hB⟩ => ⟨by
    cases b with
    | true => exact absurd (hb.mp rfl) hf
    | false => exact he, hB⟩
set_option maxHeartbeats 2000000 in
set_option maxRecDepth 100000 in
theorem update_no (w : World) (A B : Option Addr) (c d : Nat) (l : List RefE) (us : List UpE) (all : Bool) (h : RdL w A c l) (hn : ∀ x ∈ l, x.1.size ≤ 1000000) (hl : l.length ≤ 1000000) (hf : ¬ Fine l) :
    Calls Try.prog 10 #[.slice A l.length c, .slice B us.length d, .bool all] w fun e w' => e = .returned (.tuple #[.slice none 0 0, .slice none 0 0, .int .i64 1]) ∧ Below w.heap.size w w' := by
  have HC := Aside0.mk (fine_no w A c l h hn hl hf)
  clear h hn hf
  go_enter Try.func10, Try.ntmps10
  go_wp2_with (go_at_call 14; refine HC.out.mono ?_; rintro e w2 ⟨rfl, hb2⟩; have HB2 := Aside0.mk hb2; clear hb2)
  go_ret3
  exact ⟨rfl, HB2.out⟩
/-- What all updates come to. -/
def updE (us : List UpE) (l : List RefE) (all : Bool) : List RefE × List Int := if (all && badB (runE us l us.length).2) = true then (l, (runE us l us.length).2.map fixI) else runE us l us.length
structure UpdP (w w' : World) (us : List UpE) (l : List RefE) (all : Bool) (v t : Value) : Prop where
  row : Rw w' 54 33 v (updE us l all).1.length (rcells (updE us l all).1)
  good : Good32 (updE us l all).1
  few : (updE us l all).1.length ≤ 64
  trow : Rw w' 28 1 t us.length (icells (updE us l all).2)
  tl : (updE us l all).2.length = us.length
  below : Below w.heap.size w w'
theorem UpI.done {w wr : World} {l : List RefE} {us : List UpE} {all : Bool} {v t : Value} {out : List RefE} {told : List Int} (h : UpI w wr l us us.length v t out told) (ha : (all && badB told) = false) : UpdP w wr us l all v t := by
  have e : updE us l all = (out, told) := by
    unfold updE
    rw [h.runs, if_neg (by rw [ha]; simp)]
  exact ⟨by rw [e]; exact h.row, by rw [e]; exact h.good, by rw [e]; exact h.few, by rw [e]; exact h.trow, by rw [e]; exact h.tl, h.below⟩
/-- What is told, from the first on, as far as it has been turned. -/
structure FixI (w wr : World) (us : List UpE) (t : Value) (told : List Int) (k : Nat) : Prop where
  len : told.length = us.length
  trow : Rw wr 28 1 t us.length (icells ((told.take k).map fixI ++ told.drop k))
  below : Below w.heap.size w wr
theorem fix_at {told : List Int} {k : Nat} (hk : k < told.length) : ((told.take k).map fixI ++ told.drop k)[k]? = some told[k] := by
  rw [List.getElem?_append_right (by simp; omega)]
  simp [Nat.min_eq_left (Nat.le_of_lt hk), List.getElem?_eq_getElem hk]
theorem fix_next {told : List Int} {k : Nat} (hk : k < told.length) : ((told.take k).map fixI ++ told.drop k).set k (fixI told[k]) = (told.take (k + 1)).map fixI ++ told.drop (k + 1) := by
  have hl : ((told.take k).map fixI).length = k := by simp; omega
  rw [List.set_append_right _ _ (by omega), hl, Nat.sub_self, List.drop_eq_getElem_cons hk, List.set_cons_zero, List.take_succ_eq_append_getElem hk, List.map_append, List.append_assoc]
  rfl
/-- A number into a row. -/
theorem store_err {w : World} {n g off cap : Nat} {m : List Int} (h : Rw w 28 1 (.slice (some ⟨g, off, none⟩) n cap) n (icells m)) (hn : m.length = n) (i : Nat) (hi : i < n) (E : Int) :
    ∃ w', (Instr.storeAt 28 (.pointer (some ⟨g, off + i, none⟩)) (.int .i64 E)).run Try.prog w = .ok () w' ∧ Rw w' 28 1 (.slice (some ⟨g, off, none⟩) n cap) n (icells (m.set i E)) ∧ w.grownBy w' (some g) := by
  obtain ⟨cur, hg, hnn, hmx, hs, hxx⟩ := h.open_
  obtain ⟨i0, hi0, hz0, hs0, hb0⟩ := info_parts info28
  have hst := run_storeCells_at Try.prog g (off + i) 28 [.int .i64 E] 0 cur w hg (by simp; omega) (by intro u hu; simp at hu; subst hu; rfl)
  simp only [Nat.add_zero] at hst
  obtain ⟨cur', hcur'⟩ : ∃ c, c = (cur.toList.take (off + i) ++ [Value.int .i64 E] ++ cur.toList.drop (off + i + [Value.int .i64 E].length)).toArray := ⟨_, rfl⟩
  rw [← hcur'] at hst
  refine ⟨w.setRow g cur', ?_, ?_, ⟨rfl, rfl, rfl, by simp, fun j _ hj => setRow_other w g j _ (fun e => hj (by rw [e]))⟩⟩
  · simp only [Instr.storeAt, Instr.sureAddr, Sem.run_bind, Sem.run_pure, Result.andThen_ok]
    have : (storeVar 28 ⟨g, off + i, none⟩ (.int .i64 E)).run Try.prog w = .ok () (w.setRow g cur') := by
      simpa [storeVar, sizeOf, typeInfo, hi0, Value.cells, hs0] using hst
    exact this
  · have hset := h.set_ i 1 (by omega) [.int .i64 E] rfl cur hg
    rw [hcur']
    have e : icells (m.set i E) = (icells m).take i ++ [.int .i64 E] ++ (icells m).drop (i + 1) := by
      unfold icells
      rw [List.map_set, List.set_eq_take_append_cons_drop, if_pos (by simp; omega)]
      simp
    rw [e]
    simpa using hset
theorem FixI.next {w wr w5 : World} {us : List UpE} {t : Value} {told : List Int} {k : Nat} (h : FixI w wr us t told k) (hk : k < told.length) (E : Int) (hE : E = fixI told[k]) (hR : Rw w5 28 1 t us.length (icells (((told.take k).map fixI ++ told.drop k).set k E))) (hg : wr.grownBy w5 t.ownBlock) (ht : ∀ k, t.ownBlock = some k → w.heap.size ≤ k) : FixI w w5 us t told (k + 1) :=
  ⟨h.len, by rw [← fix_next hk, ← hE]; exact hR, pw_below_grown h.below _ h.below.size hg ht⟩
theorem FixI.same {w wr : World} {us : List UpE} {t : Value} {told : List Int} {k : Nat} (h : FixI w wr us t told k) (hk : k < told.length) (hE : told[k] = fixI told[k]) : FixI w wr us t told (k + 1) := by
  have e : (told.take (k + 1)).map fixI ++ told.drop (k + 1) = (told.take k).map fixI ++ told.drop k := by
    rw [List.take_succ_eq_append_getElem hk, List.map_append, List.append_assoc, List.drop_eq_getElem_cons hk]
    simp [← hE]
  exact ⟨h.len, by rw [e]; exact h.trow, h.below⟩
theorem FixI.done {w wr w5 : World} {l : List RefE} {us : List UpE} {t v : Value} {out : List RefE} {told : List Int} (h : FixI w wr us t told us.length) (hr : runE us l us.length = (out, told)) (hb : badB told = true) (hg : Good32 l) (hl : l.length ≤ 64) (hb5 : Below wr.heap.size wr w5) (hR : Rw w5 54 33 v l.length (rcells l)) : UpdP w w5 us l true v t := by
  have e : updE us l true = (l, told.map fixI) := by
    unfold updE
    rw [hr, if_pos (by rw [hb]; rfl)]
  have ht := rw_below h.trow hb5
  rw [List.take_of_length_le (by rw [h.len]; exact Nat.le_refl _), List.drop_of_length_le (by rw [h.len]; exact Nat.le_refl _), List.append_nil] at ht
  exact ⟨by rw [e]; exact hR, by rw [e]; exact hg, by rw [e]; exact hl, by rw [e]; exact ht, by rw [e]; simp [h.len], h.below.trans (hb5.mono h.below.size)⟩
set_option maxHeartbeats 2000000 in
set_option maxRecDepth 100000 in
theorem update_yes (w : World) (A B : Option Addr) (c d : Nat) (l : List RefE) (us : List UpE) (all : Bool) (h : RdL w A c l) (hu : RdU w B d us) (hn : ∀ x ∈ l, x.1.size ≤ 1000000) (hun : ∀ x ∈ us, x.1.size ≤ 1000000) (hl : l.length ≤ 1000000) (hul : us.length ≤ 1000000) (hf : Fine l) :
    Calls Try.prog 10 #[.slice A l.length c, .slice B us.length d, .bool all] w fun e w' => ∃ v t, e = .returned (.tuple #[v, t, .int .i64 0]) ∧ UpdP w w' us l all v t := by
  have HC := Aside0.mk (fine_yes w A c l h hn hl hf)
  have HRD := Aside0.mk h
  have HRU := Aside0.mk hu
  have HUN := Aside0.mk hun
  have HF := Aside0.mk hf
  have hcap := hu.cap
  clear h hu hn hun hf
  go_enter Try.func10, Try.ntmps10
  go_wp2_with (first | (go_at_call 14; refine HC.out.mono ?_; rintro e w2 ⟨rfl, hb2⟩; have HB2 := Aside0.mk hb2; clear hb2) | (go_at_call 23; refine (clone_calls _ _ _ _ (HRD.out.below HB2.out) hl).mono ?_; rintro e w3 ⟨v3, rfl, hR3, hb3, hf3⟩; have HU0 := Aside0.mk (UpI.mk rfl hR3 HRD.out.good HF.out.1 rfl (Rw.nil w3 28 1) (HB2.out.trans (hb3.mono HB2.out.size)) (fun k hk => by simp [Value.ownBlock] at hk) : UpI w w3 l us 0 v3 (.slice none 0 0) l []); clear hR3 hb3 hf3))
  go_loopw [9, 10, 11, 24] (fun v9 v10 v11 v24 w' => ∃ (i : Nat) (out' : List RefE) (told' : List Int), v11 = .bool (badB told') ∧ v24 = .int .i64 (i : Int) ∧ i ≤ us.length ∧ Aside0 (UpI w w' l us i v9 v10 out' told')) (fun _ _ _ v24 _ => us.length - (intOf v24).toNat)
  case atStart => exact ⟨0, l, [], rfl, rfl, Nat.zero_le _, HU0⟩
  case round =>
    obtain ⟨i, out', told', hbd, rfl, hi, HU⟩ := hrel
    obtain ⟨A9, c9, hv9, hrd9⟩ := RdL.of_rw HU.out.row HU.out.good
    subst hv9
    have HRD9 := Aside0.mk hrd9
    clear hrd9
    obtain ⟨b, hb⟩ : ∃ b, badB told' = b := ⟨_, rfl⟩
    rw [hb] at hbd
    subst hbd
    have HBD := Aside0.mk hb
    clear hb
    by_cases hlt : i < us.length
    · have e1 : decide ((i : Int) < (us.length : Int)) = true := decide_eq_true (by omega)
      have hi := hlt
      obtain ⟨nm, hnm⟩ : ∃ x, us[i].1 = x := ⟨_, rfl⟩
      obtain ⟨x, hxx⟩ : ∃ x, us[i].2.1 = x := ⟨_, rfl⟩
      obtain ⟨z, hzz⟩ : ∃ x, us[i].2.2 = x := ⟨_, rfl⟩
      have HX := Aside0.mk (show us[i] = (nm, x, z) by rw [← hnm, ← hxx, ← hzz])
      have HZ := Aside0.mk (show z.length = 32 from hzz ▸ (HRU.out.good us[i] (List.getElem_mem hlt)).2)
      have HNM := Aside0.mk (show nm.size ≤ 1000000 from hnm ▸ HUN.out us[i] (List.getElem_mem hlt))
      have b1 : (0 : Int) ≤ (i : Int) + 1 := by omega
      have b2 : (i : Int) + 1 ≤ (d : Int) := by omega
      have b3 : ((i : Int) + 1).toNat = i + 1 := by omega
      clear hnm hxx hzz
      cases b with
      | false =>
        go_wp2_with (first | (go_at_call 24; refine (one_at _ _ _ _ _ out' us HRD9.out (HRU.out.below HU.out.below) (Nat.le_trans HU.out.few (by omega)) hul i hi nm x z HX.out HNM.out).mono ?_; rintro e w5 ⟨v5, E, rfl, hb5, hE, h0, h1⟩; obtain ⟨t6, w6, hap, hR6, hG6, ht6⟩ := append_err (rw_below HU.out.trow hb5) (by omega) E; obtain ⟨out6, hu6⟩ := HU.out.next hi nm x z HX.out HZ.out E hb5 hE h0 h1 hR6 hG6 ht6; have HU6 := Aside0.mk hu6; have hbs := build_err E w5; clear hb5 hE h0 h1 hR6 hG6 ht6 hu6) | (at_builtin; refine Lib.wpList_append_run _ rfl _ _ _ _ rfl _ _ rfl rfl _ _ hap ?_))
        go_roundw
        case rel => exact ⟨i + 1, out6, told' ++ [E], by rw [badB_snoc, HBD.out]; first | rfl | simp, by go_num, by omega, HU6⟩
        case measure => simp [intOf]; omega
      | true =>
        go_wp2_with (first | (go_at_call 24; refine (one_at _ _ _ _ _ out' us HRD9.out (HRU.out.below HU.out.below) (Nat.le_trans HU.out.few (by omega)) hul i hi nm x z HX.out HNM.out).mono ?_; rintro e w5 ⟨v5, E, rfl, hb5, hE, h0, h1⟩; obtain ⟨t6, w6, hap, hR6, hG6, ht6⟩ := append_err (rw_below HU.out.trow hb5) (by omega) E; obtain ⟨out6, hu6⟩ := HU.out.next hi nm x z HX.out HZ.out E hb5 hE h0 h1 hR6 hG6 ht6; have HU6 := Aside0.mk hu6; have hbs := build_err E w5; clear hb5 hE h0 h1 hR6 hG6 ht6 hu6) | (at_builtin; refine Lib.wpList_append_run _ rfl _ _ _ _ rfl _ _ rfl rfl _ _ hap ?_))
        go_roundw
        case rel => exact ⟨i + 1, out6, told' ++ [E], by rw [badB_snoc, HBD.out]; first | rfl | simp, by go_num, by omega, HU6⟩
        case measure => simp [intOf]; omega
    · have e1 : decide ((i : Int) < (us.length : Int)) = false := decide_eq_false (by omega)
      obtain rfl : i = us.length := by omega
      cases all with
      | false =>
        have HD := Aside0.mk (HU.out.done (all := false) rfl)
        go_wp2
        go_ret3
        exact ⟨_, _, rfl, HD.out⟩
      | true =>
        cases b with
        | false =>
          have HD := Aside0.mk (HU.out.done (all := true) (by rw [HBD.out]; rfl))
          go_wp2
          go_ret3
          exact ⟨_, _, rfl, HD.out⟩
        | true =>
          have hpos : 0 < us.length := by
            have h1 := HU.out.tl
            have h2 := HBD.out
            cases told' with
            | nil => simp [badB] at h2
            | cons a b => simp at h1; omega
          obtain ⟨g, off, cap, rfl, hnc, _⟩ := HU.out.trow.form2 hpos
          have HRUNS := Aside0.mk HU.out.runs
          have HTF := Aside0.mk HU.out.tfresh
          have HX0 := Aside0.mk (FixI.mk HU.out.tl (by simpa using HU.out.trow) HU.out.below : FixI w wr us (.slice (some ⟨g, off, none⟩) us.length cap) told' 0)
          clear HU HRD9
          obtain ⟨wo, hwo⟩ : ∃ wo : World, wo = wr := ⟨_, rfl⟩
          rw [← hwo] at HX0 ⊢
          clear hwo
          go_wp2
          go_loopw [53] (fun v53 w' => ∃ k : Nat, v53 = .int .i64 (k : Int) ∧ k ≤ us.length ∧ Aside0 (FixI w w' us (.slice (some ⟨g, off, none⟩) us.length cap) told' k)) (fun v53 _ => us.length - (intOf v53).toNat)
          case atStart => exact ⟨0, rfl, Nat.zero_le _, HX0⟩
          case round =>
            clear HX0
            obtain ⟨k, rfl, hk, HX⟩ := hrel
            by_cases hlt : k < us.length
            · have c1 : decide ((k : Int) < (us.length : Int)) = true := decide_eq_true (by omega)
              have c2 : (0 : Int) ≤ (k : Int) := by omega
              have c3 : (k : Int) < (us.length : Int) := by omega
              have hkt : k < told'.length := by rw [HX.out.len]; exact hlt
              have y1 : wr.cell? ⟨g, off + k, none⟩ = some (.int .i64 told'[k]) := HX.out.trow.cell (by unfold icells; rw [List.getElem?_map, fix_at hkt]; rfl)
              have HNX := Aside0.mk (fun (w5 : World) (E : Int) (hE : E = fixI told'[k]) hR hg => HX.out.next (w5 := w5) hkt E hE hR hg HTF.out)
              have HSM := Aside0.mk (fun (hE : told'[k] = fixI told'[k]) => HX.out.same hkt hE)
              obtain ⟨e, he⟩ : ∃ e, told'[k] = e := ⟨_, rfl⟩
              rw [he] at y1 HNX HSM
              clear he hkt
              by_cases h0 : e = 0
              · have c4 : (e == 0) = true := by rw [h0]; rfl
                obtain ⟨w5, hst, hR5, hG5⟩ := store_err HX.out.trow (by simp; have := HX.out.len; omega) k hlt 12
                have HX5 := Aside0.mk (HNX.out w5 12 (by rw [h0]; rfl) hR5 hG5)
                clear h0 hR5 hG5
                go_wp2
                go_roundw
                case rel => exact ⟨k + 1, by go_num, by omega, HX5⟩
                case measure => simp [intOf]; omega
              · have c4 : (e == 0) = false := beq_eq_false_iff_ne.mpr h0
                have HX5 := Aside0.mk (HSM.out (by unfold fixI; rw [if_neg h0]))
                clear h0
                go_wp2
                go_roundw
                case rel => exact ⟨k + 1, by go_num, by omega, HX5⟩
                case measure => simp [intOf]; omega
            · have c1 : decide ((k : Int) < (us.length : Int)) = false := decide_eq_false (by omega)
              obtain rfl : k = us.length := by omega
              go_wp2_with (go_at_call 23; refine (clone_calls _ _ _ _ (HRD.out.below HX.out.below) hl).mono ?_; rintro e w6 ⟨v6, rfl, hR6, hb6, hf6⟩; have HD := Aside0.mk (HX.out.done HRUNS.out HBD.out HRD.out.good HF.out.1 hb6 hR6); clear hR6 hb6 hf6)
              go_ret3
              exact ⟨_, _, rfl, HD.out⟩
end Go.Proofs.Ytklbemgepeleoaa.Rf
