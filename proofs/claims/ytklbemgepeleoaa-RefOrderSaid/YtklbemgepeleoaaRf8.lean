/- Refs by name: IndexFunc, place, Find; the document's Find; Same. -/
import Derived.Test.YtklbemgepeleoaaRf7
import Derived.Outline
set_option linter.unusedVariables false
set_option linter.unusedSimpArgs false
namespace Go.Proofs.Ytklbemgepeleoaa.Rf
open Go.RowKit Go.Proofs.Ytklbemgepeleoaa.Lk Go.Proofs.YtklbemgepeleoaaW.PrintWords Go.Proofs.YtklbemgepeleoaaW.PrintLast Go.Proofs.YtklbemgepeleoaaW.PrintMore
attribute [local go_sem] max2_int min2_int max_two min_two max_three min_three max_four min_four
attribute [-simp] Try.isAgg37 Try.isAgg54 Try.isAgg39
attribute [-go_sem] Instr.loadAt Instr.storeAt
attribute [local go_sem] loadAt9 loadAt3
def eqB (a b : ByteArray) : Bool := a.toList == b.toList
theorem eqB_iff (a b : ByteArray) : eqB a b = true ↔ a = b := by
  unfold eqB
  rw [beq_iff_eq]
  exact ⟨toList_inj, fun h => by rw [h]⟩
theorem box_facts (w : World) (v : Value) (cs : List Value) (T : TypeId) (p : Addr) (nm : ByteArray) (hp : w.cell? p = some (.string nm)) :
    (w.alloc (.cells (v :: cs).toArray T)).cell? ⟨w.heap.size, 0, none⟩ = some v ∧ (w.alloc (.cells (v :: cs).toArray T)).cell? p = some (.string nm) :=
  ⟨by rw [cell_of_row _ _ 0 _ _ (0, 0) (heap_alloc_last w _)]; simp, pw_cell_below ((Below.refl _ _).alloc (Nat.le_refl _) _) hp⟩
set_option maxHeartbeats 1000000 in
set_option maxRecDepth 100000 in
theorem clo43 (w : World) (nx : ByteArray) (x : List Int) (p : Addr) (nm : ByteArray) (hp : w.cell? p = some (.string nm)) :
    Calls Try.prog 43 #[.agg (.string nx :: idc x).toArray, .pointer (some p)] w fun e w' => e = .returned (.bool (eqB nx nm)) ∧ Below w.heap.size w w' := by
  obtain ⟨h1, h2⟩ := box_facts w (.string nx) (idc x) 54 p nm hp
  clear hp
  go_enter Try.func43, Try.ntmps43
  go_wp2
  go_ret
  exact ⟨rfl, (Below.refl _ _).alloc (Nat.le_refl _) _⟩
set_option maxHeartbeats 1000000 in
set_option maxRecDepth 100000 in
theorem clo47 (w : World) (nx : ByteArray) (x : List Int) (p : Addr) (nm : ByteArray) (hp : w.cell? p = some (.string nm)) :
    Calls Try.prog 47 #[.agg (.string nx :: idc x).toArray, .pointer (some p)] w fun e w' => e = .returned (.bool (eqB nx nm)) ∧ Below w.heap.size w w' := by
  obtain ⟨h1, h2⟩ := box_facts w (.string nx) (idc x) 54 p nm hp
  clear hp
  go_enter Try.func47, Try.ntmps47
  go_wp2
  go_ret
  exact ⟨rfl, (Below.refl _ _).alloc (Nat.le_refl _) _⟩
def ixE (n s : Nat) : Int := if s < n then (s : Int) else -1
theorem RdL.whole {w : World} {A : Option Addr} {c : Nat} {l : List RefE} (h : RdL w A c l) (k : Nat) (hk : k < l.length) :
    ∃ a, A = some a ∧ (Instr.loadAt 54 (.pointer (some (a.add (k * 33))))).run Try.prog w = .ok (.agg (.string l[k].1 :: idc l[k].2).toArray) w := by
  obtain ⟨a, e, hc⟩ := h.at k hk
  exact ⟨a, e, run_loadAt_any w (a.add (k * 33)) 54 (rcell l[k]) _ hc Try.underlying54 rfl (by rw [show (Try.prog.info? 54).map (·.size) = some 33 by kernel_rfl, rcell_length (h.good _ (List.getElem_mem hk))])⟩
set_option maxHeartbeats 1000000 in
set_option maxRecDepth 100000 in
theorem index_calls (w : World) (A : Option Addr) (c : Nat) (l : List RefE) (h : RdL w A c l) (hl : l.length ≤ 1000000) (p : Addr) (nm : ByteArray) (hp : w.cell? p = some (.string nm)) (s : Nat) (hs : s ≤ l.length)
    (hbef : ∀ j, (hj : j < s) → eqB (l[j]'(by omega)).1 nm = false) (hat : (hs : s < l.length) → eqB l[s].1 nm = true) :
    Calls Try.prog 42 #[.slice A l.length c, .func (.func 43) #[] #[.pointer (some p)]] w fun e w' => e = .returned (.int .i64 (ixE l.length s)) ∧ Below w.heap.size w w' := by
  have HR := Aside0.mk h
  have HP := Aside0.mk hp
  have HBF := Aside0.mk hbef
  have HAT := Aside0.mk hat
  clear h hp hbef hat
  go_enter Try.func42, Try.ntmps42
  go_wp2
  go_loopw [8] (fun v8 w' => ∃ k : Nat, v8 = .int .i64 (k : Int) ∧ k ≤ s ∧ Aside0 (Below w.heap.size w w')) (fun v8 _ => l.length - (intOf v8).toNat)
  case atStart => exact ⟨0, rfl, Nat.zero_le _, ⟨Below.refl _ _⟩⟩
  case round =>
    obtain ⟨k, rfl, hk, HB⟩ := hrel
    by_cases hlt : k < l.length
    · have e1 : decide ((k : Int) < (l.length : Int)) = true := decide_eq_true (by omega)
      have e3 : (0 : Int) ≤ (k : Int) := by omega
      have e4 : (k : Int) < (l.length : Int) := by omega
      obtain ⟨a, rfl, hload⟩ := (HR.out.below HB.out).whole k hlt
      have HP2 := Aside0.mk (pw_cell_below HB.out HP.out)
      by_cases hks : k = s
      · have HEQ := Aside0.mk (show eqB l[k].1 nm = true by subst hks; exact HAT.out hlt)
        have HV := Aside0.mk (show ixE l.length s = (k : Int) by unfold ixE; subst hks; rw [if_pos hlt])
        obtain ⟨nx, hnx⟩ : ∃ nx, l[k].1 = nx := ⟨_, rfl⟩
        obtain ⟨x, hx⟩ : ∃ x, l[k].2 = x := ⟨_, rfl⟩
        rw [hnx, hx] at hload
        rw [hnx] at HEQ
        clear hks hnx hx
        go_wp2_with (go_at_call 43; refine (clo43 _ nx x p nm HP2.out).mono ?_; rw [HEQ.out]; rintro e w5 ⟨rfl, hb5⟩; have HB5 := Aside0.mk (HB.out.trans (hb5.mono HB.out.size)); clear hb5)
        go_ret
        exact ⟨by rw [HV.out]; rfl, HB5.out⟩
      · have HEQ := Aside0.mk (show eqB l[k].1 nm = false from HBF.out k (by omega))
        have HK := Aside0.mk (show k + 1 ≤ s by omega)
        obtain ⟨nx, hnx⟩ : ∃ nx, l[k].1 = nx := ⟨_, rfl⟩
        obtain ⟨x, hx⟩ : ∃ x, l[k].2 = x := ⟨_, rfl⟩
        rw [hnx, hx] at hload
        rw [hnx] at HEQ
        clear hks hnx hx
        go_wp2_with (go_at_call 43; refine (clo43 _ nx x p nm HP2.out).mono ?_; rw [HEQ.out]; rintro e w5 ⟨rfl, hb5⟩; have HB5 := Aside0.mk (HB.out.trans (hb5.mono HB.out.size)); clear hb5)
        go_roundw
        case rel => exact ⟨k + 1, by go_num, HK.out, HB5⟩
        case measure => simp [intOf]; omega
    · have e1 : decide ((k : Int) < (l.length : Int)) = false := decide_eq_false (by omega)
      have HV := Aside0.mk (show ixE l.length s = -1 by unfold ixE; rw [if_neg (by omega)])
      go_wp2
      go_ret
      exact ⟨by rw [HV.out]; rfl, HB.out⟩
/-- How many elements are ahead of the first one of that name. -/
def posE (l : List RefE) (nm : ByteArray) : Nat := l.findIdx (fun x => eqB x.1 nm)
theorem posE_le (l : List RefE) (nm : ByteArray) : posE l nm ≤ l.length := List.findIdx_le_length
theorem posE_bef (l : List RefE) (nm : ByteArray) (j : Nat) (hj : j < posE l nm) : eqB (l[j]'(by have := posE_le l nm; omega)).1 nm = false := by
  have := List.not_of_lt_findIdx (p := fun x : RefE => eqB x.1 nm) (xs := l) hj
  simpa using this
theorem posE_at (l : List RefE) (nm : ByteArray) (h : posE l nm < l.length) : eqB l[posE l nm].1 nm = true := List.findIdx_getElem (p := fun x : RefE => eqB x.1 nm) (xs := l) (w := h)
set_option maxHeartbeats 1000000 in
set_option maxRecDepth 100000 in
theorem place_calls (w : World) (A : Option Addr) (c : Nat) (l : List RefE) (h : RdL w A c l) (hl : l.length ≤ 1000000) (nm : ByteArray) :
    Calls Try.prog 35 #[.slice A l.length c, .string nm] w fun e w' => e = .returned (.int .i64 (ixE l.length (posE l nm))) ∧ Below w.heap.size w w' := by
  have HR := Aside0.mk (h.below ((Below.refl w.heap.size w).alloc (Nat.le_refl _) (.cells #[.string nm] 9)))
  have hp : (w.alloc (.cells #[.string nm] 9)).cell? ⟨w.heap.size, 0, none⟩ = some (.string nm) := by rw [cell_of_row _ _ 0 _ _ (0, 0) (heap_alloc_last w _)]; rfl
  have HP := Aside0.mk hp
  have HBF := Aside0.mk (posE_bef l nm)
  have HAT := Aside0.mk (posE_at l nm)
  clear h hp
  go_enter Try.func35, Try.ntmps35
  go_wp2_with (go_at_call 42; refine (index_calls _ _ _ _ HR.out hl _ nm HP.out (posE l nm) (posE_le l nm) HBF.out HAT.out).mono ?_; rintro e w5 ⟨rfl, hb5⟩; have HB5 := Aside0.mk (((Below.refl w.heap.size w).alloc (Nat.le_refl _) (.cells #[.string nm] 9)).trans (hb5.mono (by simp))); clear hb5)
  go_ret
  exact ⟨rfl, HB5.out⟩
/-- What a name stands for. -/
def findE (l : List RefE) (nm : ByteArray) : Option (List Int) := (l[posE l nm]?).map (·.2)
abbrev zid : Array Value := #[.int .u8 0, .int .u8 0, .int .u8 0, .int .u8 0, .int .u8 0, .int .u8 0, .int .u8 0, .int .u8 0, .int .u8 0, .int .u8 0, .int .u8 0, .int .u8 0, .int .u8 0, .int .u8 0, .int .u8 0, .int .u8 0, .int .u8 0, .int .u8 0, .int .u8 0, .int .u8 0, .int .u8 0, .int .u8 0, .int .u8 0, .int .u8 0, .int .u8 0, .int .u8 0, .int .u8 0, .int .u8 0, .int .u8 0, .int .u8 0, .int .u8 0, .int .u8 0]
/-- A variable for an id: what is stored into it is read out of it. -/
theorem var_id (w w1 : World) (g : Nat) (old : Array Value) (hg : w1.heap[g]? = some (.cells old 37 (0, 0))) (ho : old.size = 32) (x : List Int) (hx : x.length = 32) :
    ∃ w2, (Instr.storeAt 37 (.pointer (some ⟨g, 0, none⟩)) (.agg (idc x).toArray)).run Try.prog w1 = .ok () w2 ∧ w1.grownBy w2 (some g) ∧
      (loadVar 37 ⟨g, 0, none⟩).run Try.prog w2 = .ok (.agg (idc x).toArray) w2 := by
  have hi : (Try.prog.info? 37).map (·.size) = some (idc x).toArray.size := by rw [show (Try.prog.info? 37).map (·.size) = some 32 by kernel_rfl]; simp [idc, hx]
  have hs : (idc x).toArray.size = 32 := by simp [idc, hx]
  have hr := run_storeVar_row (P := Try.prog) w1 g 37 37 old (idc x).toArray hg hi (by omega) (all_oneCell_toArray (idc_one x))
  have hgn := setRow_heap w1 g old (idc x).toArray 37 (0, 0) hg
  refine ⟨w1.setRow g (idc x).toArray, ?_, ⟨rfl, rfl, rfl, by simp, fun j _ hj => setRow_other w1 g j _ (fun e => hj (by rw [e]))⟩, ?_⟩
  · simp only [Instr.storeAt, Instr.sureAddr, Sem.run_bind, Sem.run_pure, Result.andThen_ok]
    exact hr
  · exact run_loadVar_row (P := Try.prog) _ g 37 37 _ (0, 0) _ hgn Try.underlying37 rfl hi
theorem below_var {w w5 w6 : World} {o : Obj} (hb : Below (w.alloc o).heap.size (w.alloc o) w5) (hg : w5.grownBy w6 (some w.heap.size)) : Below w.heap.size w w6 :=
  pw_below_grown (((Below.refl _ _).alloc (Nat.le_refl _) o).trans (hb.mono (by simp))) (some w.heap.size) (Nat.le_trans (by simp) hb.size) hg (fun k hk => by injection hk with hk; omega)
theorem results_cell_tmp {P : Program} {fn : Func} {a u : Tmp} {T : TypeId} (h : fn.results = #[.cell a T, .tmp u]) (tmps : Array Value) (w : World) {p : Addr} {v x : Value} (ha : tmps.getD a undef = .pointer (some p)) (hu : tmps.getD u undef = x) (hl : (loadVar T p).run P w = .ok v w) :
    (results fn tmps).run P w = .ok (.tuple #[v, x]) w := by
  have ha' : tmps[a]?.getD undef = .pointer (some p) := by simpa using ha
  have hu' : tmps[u]?.getD undef = x := by simpa using hu
  simp [results, h, ha', hu', asAddr, hl]
set_option maxHeartbeats 1000000 in
set_option maxRecDepth 100000 in
theorem find_none (w : World) (A : Option Addr) (c : Nat) (l : List RefE) (h : RdL w A c l) (hl : l.length ≤ 1000000) (nm : ByteArray) (hn : ¬ posE l nm < l.length) :
    Calls Try.prog 19 #[.slice A l.length c, .string nm] w fun e w' => e = .returned (.tuple #[idv id0, .bool false]) ∧ Below w.heap.size w w' := by
  have HR := Aside0.mk (h.below ((Below.refl w.heap.size w).alloc (Nat.le_refl _) (.cells zid 37)))
  have HV := Aside0.mk (show ixE l.length (posE l nm) = -1 by unfold ixE; rw [if_neg hn])
  clear h hn
  go_enter Try.func19, Try.ntmps19
  go_wp2_with (go_at_call 35; refine (place_calls _ _ _ _ HR.out hl _).mono ?_; rw [HV.out]; rintro e w5 ⟨rfl, hb5⟩; obtain ⟨w6, hst, hg6, hld⟩ := var_id w w5 w.heap.size zid ((hb5.block w.heap.size (by simp)).trans (heap_alloc_last w _)) rfl id0 (by simp); have HB6 := Aside0.mk (below_var hb5 hg6); have HLD := Aside0.mk hld; clear hb5 hg6 hld; change (Instr.storeAt 37 _ (.agg zid)).run Try.prog w5 = _ at hst)
  have hld := HLD.out
  exact bodyPost_ret (v := .tuple #[idv id0, .bool false]) (results_cell_tmp (a := 4) (u := 5) (T := 37) rfl _ _ rfl rfl hld) rfl ⟨rfl, HB6.out⟩
theorem RdL.idload {w : World} {A : Option Addr} {c : Nat} {l : List RefE} (h : RdL w A c l) (k : Nat) (hk : k < l.length) :
    ∃ a, A = some a ∧ (Instr.loadAt 37 (.pointer (some ⟨(a.add (k * 33)).block, (a.add (k * 33)).off + 1, none⟩))).run Try.prog w = .ok (.agg (idc l[k].2).toArray) w := by
  obtain ⟨a, e, hc⟩ := h.id k hk
  exact ⟨a, e, load_id (h.good _ (List.getElem_mem hk)) hc⟩
set_option maxHeartbeats 1000000 in
set_option maxRecDepth 100000 in
theorem find_at (w : World) (A : Option Addr) (c : Nat) (l : List RefE) (h : RdL w A c l) (hl : l.length ≤ 1000000) (nm : ByteArray) (k : Nat) (hk : k < l.length) (hkp : posE l nm = k) (x : List Int) (hx : l[k].2 = x) :
    Calls Try.prog 19 #[.slice A l.length c, .string nm] w fun e w' => e = .returned (.tuple #[idv x, .bool true]) ∧ Below w.heap.size w w' := by
  have HR := Aside0.mk (h.below ((Below.refl w.heap.size w).alloc (Nat.le_refl _) (.cells zid 37)))
  have HV := Aside0.mk (show ixE l.length (posE l nm) = (k : Int) by unfold ixE; rw [hkp, if_pos hk])
  have e3 : (0 : Int) ≤ (k : Int) := by omega
  have e4 : (k : Int) < (l.length : Int) := by omega
  have HX32 := Aside0.mk (hx ▸ h.good l[k] (List.getElem_mem hk))
  obtain ⟨a, rfl, _⟩ := h.at k hk
  have HLOAD := Aside0.mk (show ∀ w5, Below (w.alloc (.cells zid 37)).heap.size (w.alloc (.cells zid 37)) w5 → (Instr.loadAt 37 (.pointer (some ⟨(a.add (k * 33)).block, (a.add (k * 33)).off + 1, none⟩))).run Try.prog w5 = .ok (.agg (idc x).toArray) w5 from fun w5 hb => by
    obtain ⟨a', ea, hl⟩ := (HR.out.below hb).idload k hk
    obtain rfl := Option.some.inj ea
    rw [← hx]
    exact hl)
  clear h hkp hx
  go_enter Try.func19, Try.ntmps19
  go_wp2_with (go_at_call 35; refine (place_calls _ _ _ _ HR.out hl _).mono ?_; rw [HV.out]; rintro e w5 ⟨rfl, hb5⟩; obtain ⟨w6, hst, hg6, hld⟩ := var_id w w5 w.heap.size zid ((hb5.block w.heap.size (by simp)).trans (heap_alloc_last w _)) rfl x HX32.out; have HB6 := Aside0.mk (below_var hb5 hg6); have HLD := Aside0.mk hld; have hl5 := HLOAD.out w5 hb5; clear hb5 hg6 hld)
  have hld := HLD.out
  exact bodyPost_ret (v := .tuple #[idv x, .bool true]) (results_cell_tmp (a := 4) (u := 5) (T := 37) rfl _ _ rfl rfl hld) rfl ⟨rfl, HB6.out⟩
end Go.Proofs.Ytklbemgepeleoaa.Rf
