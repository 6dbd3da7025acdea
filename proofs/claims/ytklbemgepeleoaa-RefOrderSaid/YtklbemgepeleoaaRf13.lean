/- Updates by name: IndexFunc, ContainsFunc. -/
import Derived.Test.YtklbemgepeleoaaRf12
set_option linter.unusedVariables false
set_option linter.unusedSimpArgs false
namespace Go.Proofs.Ytklbemgepeleoaa.Rf
open Go.RowKit Go.Proofs.Ytklbemgepeleoaa.Lk Go.Proofs.YtklbemgepeleoaaW.PrintWords Go.Proofs.YtklbemgepeleoaaW.PrintLast Go.Proofs.YtklbemgepeleoaaW.PrintMore
attribute [local go_sem] max2_int min2_int max_two min_two max_three min_three max_four min_four
attribute [-simp] Try.isAgg37 Try.isAgg54 Try.isAgg39
attribute [-go_sem] Instr.loadAt Instr.storeAt Instr.build Instr.buildSlice
attribute [local go_sem] loadAt9 loadAt3
set_option maxHeartbeats 1000000 in
set_option maxRecDepth 100000 in
theorem clo45 (w : World) (nx : ByteArray) (x z : List Int) (p : Addr) (nm : ByteArray) (hp : w.cell? p = some (.string nm)) :
    Calls Try.prog 45 #[.agg (.string nx :: (idc x ++ idc z)).toArray, .pointer (some p)] w fun e w' => e = .returned (.bool (eqB nx nm)) ∧ Below w.heap.size w w' := by
  obtain ⟨h1, h2⟩ := box_facts w (.string nx) (idc x ++ idc z) 39 p nm hp
  clear hp
  obtain ⟨ys, hys⟩ : ∃ ys, ys = idc x ++ idc z := ⟨_, rfl⟩
  rw [← hys] at h1 h2 ⊢
  clear hys
  go_enter Try.func45, Try.ntmps45
  go_wp2
  go_ret
  exact ⟨rfl, (Below.refl _ _).alloc (Nat.le_refl _) _⟩
theorem RdU.whole {w : World} {A : Option Addr} {c : Nat} {l : List UpE} (h : RdU w A c l) (k : Nat) (hk : k < l.length) :
    ∃ a, A = some a ∧ (Instr.loadAt 39 (.pointer (some (a.add (k * 65))))).run Try.prog w = .ok (.agg (.string l[k].1 :: (idc l[k].2.1 ++ idc l[k].2.2)).toArray) w := by
  obtain ⟨a, e, hc⟩ := h.at k hk
  exact ⟨a, e, run_loadAt_any w (a.add (k * 65)) 39 (ucell l[k]) _ hc Try.underlying39 rfl (by rw [show (Try.prog.info? 39).map (·.size) = some 65 by kernel_rfl, ucell_length (h.good _ (List.getElem_mem hk))])⟩
set_option maxHeartbeats 1000000 in
set_option maxRecDepth 100000 in
theorem index52 (w : World) (A : Option Addr) (c : Nat) (l : List UpE) (h : RdU w A c l) (hl : l.length ≤ 1000000) (p : Addr) (nm : ByteArray) (hp : w.cell? p = some (.string nm)) (s : Nat) (hs : s ≤ l.length)
    (hbef : ∀ j, (hj : j < s) → eqB (l[j]'(by omega)).1 nm = false) (hat : (hs : s < l.length) → eqB l[s].1 nm = true) :
    Calls Try.prog 52 #[.slice A l.length c, .func (.func 45) #[] #[.pointer (some p)]] w fun e w' => e = .returned (.int .i64 (ixE l.length s)) ∧ Below w.heap.size w w' := by
  have HR := Aside0.mk h
  have HP := Aside0.mk hp
  have HBF := Aside0.mk hbef
  have HAT := Aside0.mk hat
  clear h hp hbef hat
  go_enter Try.func52, Try.ntmps52
  go_wp2
  go_loopw [8] (fun v8 w' => ∃ k : Nat, v8 = .int .i64 (k : Int) ∧ k ≤ s ∧ Aside0 (Below w.heap.size w w')) (fun v8 _ => l.length - (intOf v8).toNat)
  case atStart => exact ⟨0, rfl, Nat.zero_le _, ⟨Below.refl _ _⟩⟩
  case round =>
    obtain ⟨k, rfl, hk, HB⟩ := hrel
    by_cases hlt : k < l.length
    · have e1 : decide ((k : Int) < (l.length : Int)) = true := decide_eq_true (by omega)
      have e3 : (0 : Int) ≤ (k : Int) := by omega
      have e4 : (k : Int) < (l.length : Int) := by omega
      obtain ⟨a, rfl, hload⟩ := (HR.out.below HB.out).whole k hlt
      have HP2 := Aside0.mk (pw_cell_below HB.out HP.out)
      by_cases hks : k = s
      · have HEQ := Aside0.mk (show eqB l[k].1 nm = true by subst hks; exact HAT.out hlt)
        have HV := Aside0.mk (show ixE l.length s = (k : Int) by unfold ixE; subst hks; rw [if_pos hlt])
        obtain ⟨nx, hnx⟩ : ∃ nx, l[k].1 = nx := ⟨_, rfl⟩
        obtain ⟨x, hx⟩ : ∃ x, l[k].2.1 = x := ⟨_, rfl⟩
        obtain ⟨z, hz⟩ : ∃ x, l[k].2.2 = x := ⟨_, rfl⟩
        rw [hnx, hx, hz] at hload
        rw [hnx] at HEQ
        clear hks hnx hx hz
        go_wp2_with (go_at_call 45; refine (clo45 _ nx x z p nm HP2.out).mono ?_; rw [HEQ.out]; rintro e w5 ⟨rfl, hb5⟩; have HB5 := Aside0.mk (HB.out.trans (hb5.mono HB.out.size)); clear hb5)
        go_ret
        exact ⟨by rw [HV.out]; rfl, HB5.out⟩
      · have HEQ := Aside0.mk (show eqB l[k].1 nm = false from HBF.out k (by omega))
        have HK := Aside0.mk (show k + 1 ≤ s by omega)
        obtain ⟨nx, hnx⟩ : ∃ nx, l[k].1 = nx := ⟨_, rfl⟩
        obtain ⟨x, hx⟩ : ∃ x, l[k].2.1 = x := ⟨_, rfl⟩
        obtain ⟨z, hz⟩ : ∃ x, l[k].2.2 = x := ⟨_, rfl⟩
        rw [hnx, hx, hz] at hload
        rw [hnx] at HEQ
        clear hks hnx hx hz
        go_wp2_with (go_at_call 45; refine (clo45 _ nx x z p nm HP2.out).mono ?_; rw [HEQ.out]; rintro e w5 ⟨rfl, hb5⟩; have HB5 := Aside0.mk (HB.out.trans (hb5.mono HB.out.size)); clear hb5)
        go_roundw
        case rel => exact ⟨k + 1, by go_num, HK.out, HB5⟩
        case measure => simp [intOf]; omega
    · have e1 : decide ((k : Int) < (l.length : Int)) = false := decide_eq_false (by omega)
      have HV := Aside0.mk (show ixE l.length s = -1 by unfold ixE; rw [if_neg (by omega)])
      go_wp2
      go_ret
      exact ⟨by rw [HV.out]; rfl, HB.out⟩
/-- How many updates are ahead of the first one of that name. -/
def posU (l : List UpE) (nm : ByteArray) : Nat := l.findIdx (fun x => eqB x.1 nm)
theorem posU_le (l : List UpE) (nm : ByteArray) : posU l nm ≤ l.length := List.findIdx_le_length
theorem posU_bef (l : List UpE) (nm : ByteArray) (j : Nat) (hj : j < posU l nm) : eqB (l[j]'(by have := posU_le l nm; omega)).1 nm = false := by
  have := List.not_of_lt_findIdx (p := fun x : UpE => eqB x.1 nm) (xs := l) hj
  simpa using this
theorem posU_at (l : List UpE) (nm : ByteArray) (h : posU l nm < l.length) : eqB l[posU l nm].1 nm = true := List.findIdx_getElem (p := fun x : UpE => eqB x.1 nm) (xs := l) (w := h)
def hasU (l : List UpE) (nm : ByteArray) : Bool := l.any (fun x => eqB x.1 nm)
theorem hasU_pos (l : List UpE) (nm : ByteArray) : hasU l nm = decide (posU l nm < l.length) := by
  unfold hasU posU
  rw [Bool.eq_iff_iff, decide_eq_true_iff, List.findIdx_lt_length, List.any_eq_true]
set_option maxHeartbeats 1000000 in
set_option maxRecDepth 100000 in
theorem contains_calls (w : World) (A : Option Addr) (c : Nat) (l : List UpE) (h : RdU w A c l) (hl : l.length ≤ 1000000) (p : Addr) (nm : ByteArray) (hp : w.cell? p = some (.string nm)) :
    Calls Try.prog 44 #[.slice A l.length c, .func (.func 45) #[] #[.pointer (some p)]] w fun e w' => e = .returned (.bool (hasU l nm)) ∧ Below w.heap.size w w' := by
  rw [hasU_pos]
  have HRD := Aside0.mk h
  have HP := Aside0.mk hp
  have HBF := Aside0.mk (posU_bef l nm)
  have HAT := Aside0.mk (posU_at l nm)
  clear h hp
  by_cases hs : posU l nm < l.length
  · rw [decide_eq_true hs]
    have HV := Aside0.mk (show ixE l.length (posU l nm) = ((posU l nm : Nat) : Int) by unfold ixE; rw [if_pos hs])
    obtain ⟨s, hsv⟩ : ∃ s, s = posU l nm := ⟨_, rfl⟩
    have HS := Aside0.mk hsv
    have e1 : (0 : Int) ≤ (s : Int) := by omega
    rw [← hsv] at HV hs
    have hle := posU_le l nm
    rw [← hsv] at hle
    clear hsv
    go_enter Try.func44, Try.ntmps44
    go_wp2_with (go_at_call 52; refine (index52 _ _ _ _ HRD.out hl _ nm HP.out (posU l nm) (posU_le l nm) HBF.out HAT.out).mono ?_; rw [← HS.out, HV.out]; rintro e w5 ⟨rfl, hb5⟩; have HB5 := Aside0.mk hb5; clear hb5)
    go_ret
    exact ⟨rfl, HB5.out⟩
  · rw [decide_eq_false hs]
    have HV := Aside0.mk (show ixE l.length (posU l nm) = -1 by unfold ixE; rw [if_neg hs])
    clear hs
    go_enter Try.func44, Try.ntmps44
    go_wp2_with (go_at_call 52; refine (index52 _ _ _ _ HRD.out hl _ nm HP.out (posU l nm) (posU_le l nm) HBF.out HAT.out).mono ?_; rw [HV.out]; rintro e w5 ⟨rfl, hb5⟩; have HB5 := Aside0.mk hb5; clear hb5)
    go_ret
    exact ⟨rfl, HB5.out⟩
end Go.Proofs.Ytklbemgepeleoaa.Rf
