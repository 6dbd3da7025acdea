/- RefUpdates: the walk. -/
import Derived.Test.YtklbemgepeleoaaRf22
set_option linter.unusedVariables false
set_option linter.unusedSimpArgs false
namespace Go.Proofs.Ytklbemgepeleoaa.Rf
open Go.RowKit Go.Proofs.Ytklbemgepeleoaa.Lk Go.Proofs.YtklbemgepeleoaaW.PrintWords Go.Proofs.YtklbemgepeleoaaW.PrintLast Go.Proofs.YtklbemgepeleoaaW.PrintMore
attribute [local go_sem] max2_int min2_int max_two min_two max_three min_three max_four min_four
attribute [-simp] Try.isAgg37 Try.isAgg54 Try.isAgg39
attribute [-go_sem] Instr.loadAt Instr.storeAt Instr.build Instr.buildSlice run_equalIn_agg
attribute [local go_sem] loadAt9 loadAt3 loadAt28
theorem docfine_yes (w : World) (A : Option Addr) (c : Nat) (l : List RefE) (h : RdL w A c l) (hn : ∀ x ∈ l, x.1.size ≤ 1000000) (hl : l.length ≤ 1000000) (hf : Fine l) : Calls Try.prog 11 #[.slice A l.length c] w fun e w' => e = .returned (.bool true) ∧ Below w.heap.size w w' :=
  (docfine_calls w A c l h hn hl).mono fun e w' ⟨b, he, hb, hB⟩ => ⟨by rw [he, hb.mpr hf], hB⟩
theorem docfine_no (w : World) (A : Option Addr) (c : Nat) (l : List RefE) (h : RdL w A c l) (hn : ∀ x ∈ l, x.1.size ≤ 1000000) (hl : l.length ≤ 1000000) (hf : ¬ Fine l) : Calls Try.prog 11 #[.slice A l.length c] w fun e w' => e = .returned (.bool false) ∧ Below w.heap.size w w' :=
  (docfine_calls w A c l h hn hl).mono fun e w' ⟨b, he, hb, hB⟩ => ⟨by
    cases b with
    | true => exact absurd (hb.mp rfl) hf
    | false => exact he, hB⟩
theorem same_yes (w : World) (A B : Option Addr) (c d : Nat) (l : List RefE) (h : RdL w A c l) (g : RdL w B d l) (hl : l.length ≤ 1000000) :
    Calls Try.prog 13 #[.slice A l.length c, .slice B l.length d] w fun e w' => e = .returned (.bool true) ∧ Below w.heap.size w w' :=
  (same_calls w A B c d l l h g hl hl).mono fun e w' ⟨b, he, hb, hB⟩ => ⟨by rw [he, hb.mpr rfl], hB⟩
set_option maxHeartbeats 4000000 in
set_option maxRecDepth 100000 in
theorem refupdates_calls (w : World) (A B : Option Addr) (c d : Nat) (l : List RefE) (us : List UpE) (all : Bool) (h : RdL w A c l) (hu : RdU w B d us) :
    Calls Try.prog 3 #[.slice A l.length c, .slice B us.length d, .bool all] w fun e w' => e = .returned (.bool true) ∧ Below w.heap.size w w' := by
  have HR := Aside0.mk h
  have HU := Aside0.mk hu
  clear h hu
  go_enter Try.func3, Try.ntmps3
  go_wp2_with fail
  refine (few_calls _ _ _ _ HR.out).mono ?_
  rintro e w2 ⟨b1, rfl, hb1, hB2⟩
  have HB2 := Aside0.mk hB2
  have HF1 := Aside0.mk hb1
  clear hb1 hB2
  go_wp2_with fail
  refine (short_calls _ _ _ _ (HU.out.below HB2.out)).mono ?_
  rintro e w3 ⟨b2, rfl, hb2, hB3⟩
  have HB3 := Aside0.mk (HB2.out.trans (hB3.mono HB2.out.size))
  have HF2 := Aside0.mk hb2
  clear hb2 hB3
  cases b1 with
  | false =>
    go_wp2_with (go_at_call 9; refine (knows_calls _).mono ?_; rintro e w9 ⟨rfl, hb9⟩; have HB9 := Aside0.mk (HB3.out.trans (hb9.mono HB3.out.size)); clear hb9)
    go_ret
    exact ⟨rfl, HB9.out⟩
  | true =>
    cases b2 with
    | false =>
      go_wp2_with (go_at_call 9; refine (knows_calls _).mono ?_; rintro e w9 ⟨rfl, hb9⟩; have HB9 := Aside0.mk (HB3.out.trans (hb9.mono HB3.out.size)); clear hb9)
      go_ret
      exact ⟨rfl, HB9.out⟩
    | true =>
      obtain ⟨hl70, hln⟩ := HF1.out rfl
      obtain ⟨hu30, hun⟩ := HF2.out rfl
      have HLN := Aside0.mk (show ∀ x ∈ l, x.1.size ≤ 1000000 from fun x hx => Nat.le_trans (hln x hx) (by omega))
      have HUN := Aside0.mk (show ∀ x ∈ us, x.1.size ≤ 1000000 from fun x hx => Nat.le_trans (hun x hx) (by omega))
      clear hln hun
      by_cases hf : Fine l
      · have HFI := Aside0.mk hf
        have h64 := hf.1
        clear hf
        go_wp2_with (first | (go_at_call 10; refine (update_yes _ _ _ _ _ _ _ all (HR.out.below HB3.out) (HU.out.below HB3.out) HLN.out HUN.out (by omega) (by omega) HFI.out).mono ?_; rintro e w4 ⟨v4, t4, rfl, hp4⟩; have HP4 := Aside0.mk hp4; have HB4 := Aside0.mk (HB3.out.trans (hp4.below.mono HB3.out.size)); clear hp4) | (go_at_call 11; refine (docfine_yes _ _ _ _ (HR.out.below HB4.out) HLN.out (by omega) HFI.out).mono ?_; rintro e w5 ⟨rfl, hb5⟩; have HB5 := Aside0.mk (HB4.out.trans (hb5.mono HB4.out.size)); have HB45 := Aside0.mk hb5; clear hb5) | (go_at_call 12; refine (docupdate_calls _ _ _ _ _ _ _ all (HR.out.below HB5.out) (HU.out.below HB5.out) HUN.out h64 (by omega)).mono ?_; rintro e w6 ⟨v6, t6, rfl, hp6⟩; have HP6 := Aside0.mk hp6; have HB6 := Aside0.mk (HB5.out.trans (hp6.below.mono HB5.out.size)); have HB46 := Aside0.mk (HB45.out.trans (hp6.below.mono HB45.out.size)); clear hp6))
        obtain ⟨m, hm⟩ : ∃ R, (updE us l all).1 = R := ⟨_, rfl⟩
        obtain ⟨told, ht⟩ : ∃ R, (updE us l all).2 = R := ⟨_, rfl⟩
        have hr4 := rw_below HP4.out.row HB46.out
        have ht4 := rw_below HP4.out.trow HB46.out
        have hg4 := HP4.out.good
        have htl := HP4.out.tl
        have hfew := HP4.out.few
        have hr6 := HP6.out.row
        have ht6 := HP6.out.trow
        rw [← upd_same us l all HFI.out] at hr6 ht6
        rw [hm] at hr4 hg4 hr6 hfew
        rw [ht] at ht4 ht6 htl
        obtain ⟨A4, c4, rfl, hd4⟩ := RdL.of_rw hr4 hg4
        obtain ⟨A6, c6, rfl, hd6⟩ := RdL.of_rw hr6 hg4
        have HD4 := Aside0.mk hd4
        have HD6 := Aside0.mk hd6
        have HT4 := Aside0.mk ht4
        have HT6 := Aside0.mk ht6
        have HTL := Aside0.mk htl
        obtain ⟨B4, d4, rfl, hnd4, _⟩ := ht4.form
        obtain ⟨B6, d6, rfl, hnd6, _⟩ := ht6.form
        clear hr4 ht4 hg4 hr6 ht6 hm ht htl hd4 hd6
        go_wp2_with (go_at_call 13; refine (same_yes _ _ _ _ _ m HD4.out HD6.out (by omega)).mono ?_; rintro e w7 ⟨rfl, hb7⟩; have HB7 := Aside0.mk hb7; clear hb7)
        go_loopw [16] (fun v16 w' => ∃ k : Nat, v16 = .int .i64 (k : Int) ∧ k ≤ us.length ∧ Aside0 (Below w6.heap.size w6 w')) (fun v16 _ => us.length - (intOf v16).toNat)
        case atStart => exact ⟨0, rfl, Nat.zero_le _, HB7⟩
        case round =>
          obtain ⟨k, rfl, hk, HB⟩ := hrel
          by_cases hlt : k < us.length
          · have e1 : decide ((k : Int) < (us.length : Int)) = true := decide_eq_true (by omega)
            have e3 : (0 : Int) ≤ (k : Int) := by omega
            have e4 : (k : Int) < (us.length : Int) := by omega
            have hkt : k < told.length := by rw [HTL.out]; exact hlt
            obtain ⟨g2, o2, q2, hv2, _, hc2⟩ := (rw_below HT4.out HB.out).form2 (by omega)
            obtain ⟨rfl, rfl⟩ : B4 = some ⟨g2, o2, none⟩ ∧ d4 = q2 := by injection hv2 with h1 h2 h3; exact ⟨h1, h3⟩
            obtain ⟨g4, o4, q4, hv4, _, hc4⟩ := (rw_below HT6.out HB.out).form2 (by omega)
            obtain ⟨rfl, rfl⟩ : B6 = some ⟨g4, o4, none⟩ ∧ d6 = q4 := by injection hv4 with h1 h2 h3; exact ⟨h1, h3⟩
            have y2 : wr.cell? ⟨g2, o2 + k, none⟩ = some (.int .i64 told[k]) := hc2 k _ (by unfold icells; rw [List.getElem?_map, List.getElem?_eq_getElem hkt]; rfl)
            have y4 : wr.cell? ⟨g4, o4 + k, none⟩ = some (.int .i64 told[k]) := hc4 k _ (by unfold icells; rw [List.getElem?_map, List.getElem?_eq_getElem hkt]; rfl)
            obtain ⟨e, he⟩ : ∃ e, told[k] = e := ⟨_, rfl⟩
            rw [he] at y2 y4
            clear hv2 hv4 hc2 hc4 he hkt
            go_wp2
            go_quiet (fail)
            go_wp2
            go_roundw
            case rel => exact ⟨k + 1, by go_num, by omega, ⟨pw_below_drewN HB.out _⟩⟩
            case measure => simp [intOf]; omega
          · have e1 : decide ((k : Int) < (us.length : Int)) = false := decide_eq_false (by omega)
            have HBE := Aside0.mk (HB6.out.trans (HB.out.mono HB6.out.size))
            go_wp2_with (go_at_call 9; refine (knows_calls _).mono ?_; rintro e w9 ⟨rfl, hb9⟩; have HB9 := Aside0.mk (HBE.out.trans (hb9.mono HBE.out.size)); clear hb9)
            go_ret
            exact ⟨rfl, HB9.out⟩
      · have HFI := Aside0.mk hf
        clear hf
        go_wp2_with (first | (go_at_call 10; refine (update_no _ _ _ _ _ _ us all (HR.out.below HB3.out) HLN.out (by omega) HFI.out).mono ?_; rintro e w4 ⟨rfl, hb4⟩; have HB4 := Aside0.mk (HB3.out.trans (hb4.mono HB3.out.size)); clear hb4) | (go_at_call 11; refine (docfine_no _ _ _ _ (HR.out.below HB4.out) HLN.out (by omega) HFI.out).mono ?_; rintro e w5 ⟨rfl, hb5⟩; have HB5 := Aside0.mk (HB4.out.trans (hb5.mono HB4.out.size)); clear hb5) | (go_at_call 9; refine (knows_calls _).mono ?_; rintro e w9 ⟨rfl, hb9⟩; have HB9 := Aside0.mk (HB5.out.trans (hb9.mono HB5.out.size)); clear hb9))
        go_ret
        exact ⟨rfl, HB9.out⟩
end Go.Proofs.Ytklbemgepeleoaa.Rf
