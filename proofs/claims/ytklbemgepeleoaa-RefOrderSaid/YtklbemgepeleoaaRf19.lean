/- Why an update can't be done: the document's Wrong. -/
import Derived.Test.YtklbemgepeleoaaRf18
import Derived.StillTailTactics
set_option linter.unusedVariables false
set_option linter.unusedSimpArgs false
namespace Go.Proofs.Ytklbemgepeleoaa.Rf
open Go.RowKit Go.Proofs.Ytklbemgepeleoaa.Lk Go.Proofs.YtklbemgepeleoaaW.PrintWords Go.Proofs.YtklbemgepeleoaaW.PrintLast Go.Proofs.YtklbemgepeleoaaW.PrintMore
attribute [local go_sem] max2_int min2_int max_two min_two max_three min_three max_four min_four
attribute [-simp] Try.isAgg37 Try.isAgg54 Try.isAgg39
attribute [-go_sem] Instr.loadAt Instr.storeAt Instr.build Instr.buildSlice run_equalIn_agg
attribute [local go_sem] loadAt9 loadAt3 loadAt28
theorem docname_below (s : ByteArray) (hs : s.size ≤ 1000000) (w : World) : Calls Try.prog 22 #[.string s] w fun e w' => e = .returned (.bool (nameB s)) ∧ Below w.heap.size w w' := (docname_calls s hs w).mono fun e w' ⟨h, m, hm⟩ => ⟨h, by rw [hm]; exact pw_below_drewN (Below.refl _ _) m⟩
/-- What an update's cells give, wherever all that was is as it was. -/
structure UpdF (W : World) (b : Addr) (i : Nat) (nm : ByteArray) (x z : List Int) : Prop where
  name : ∀ w2, Below W.heap.size W w2 → w2.cell? (b.add (i * 65)) = some (.string nm)
  old : ∀ w2, Below W.heap.size W w2 → (Instr.loadAt 37 (.pointer (some ⟨(b.add (i * 65)).block, (b.add (i * 65)).off + 1, none⟩))).run Try.prog w2 = .ok (.agg (idc x).toArray) w2
  new : ∀ w2, Below W.heap.size W w2 → (Instr.loadAt 37 (.pointer (some ⟨(b.add (i * 65)).block, (b.add (i * 65)).off + 33, none⟩))).run Try.prog w2 = .ok (.agg (idc z).toArray) w2
theorem RdU.updF {W : World} {b : Addr} {d : Nat} {us : List UpE} (h : RdU W (some b) d us) (i : Nat) (hi : i < us.length) (nm : ByteArray) (x z : List Int) (hx : us[i] = (nm, x, z)) : UpdF W b i nm x z := by
  have hg := h.good us[i] (List.getElem_mem hi)
  rw [hx] at hg
  have hlx : (idc x).length = 32 := by rw [idc_length]; exact hg.1
  have hc : ∀ w2, Below W.heap.size W w2 → ∀ j v, (ucell (nm, x, z))[j]? = some v → w2.cell? ((b.add (i * 65)).add j) = some v := fun w2 hb j v hv => by
    obtain ⟨b', eb, hc⟩ := (h.below hb).at i hi
    obtain rfl := Option.some.inj eb
    rw [hx] at hc
    exact hc j v hv
  refine ⟨fun w2 hb => ?_, fun w2 hb => load_id hg.1 fun j v hv => ?_, fun w2 hb => load_id hg.2 fun j v hv => ?_⟩
  · have := hc w2 hb 0 (.string nm) rfl
    rwa [add_add_, Nat.add_zero] at this
  · have hj := (List.getElem?_eq_some_iff.mp hv).1
    have := hc w2 hb (j + 1) v (by
      simp only [ucell, List.getElem?_cons_succ]
      rw [List.getElem?_append_left hj]
      exact hv)
    rw [add_add_, add_field b (i * 65) (j + 1) (by omega)] at this
    rw [Addr.add_mid, show (b.add (i * 65)).off + 1 + j = (b.add (i * 65)).off + (j + 1) by omega]
    exact this
  · have := hc w2 hb (j + 33) v (by
      rw [show j + 33 = 32 + j + 1 by omega]
      simp only [ucell, List.getElem?_cons_succ]
      rw [List.getElem?_append_right (by omega), hlx, show 32 + j - 32 = j by omega]
      exact hv)
    rw [add_add_, add_field b (i * 65) (j + 33) (by omega)] at this
    rw [Addr.add_mid, show (b.add (i * 65)).off + 33 + j = (b.add (i * 65)).off + (j + 33) by omega]
    exact this
def wrongE (l : List RefE) (pre : List UpE) (x : UpE) : Int := if rightE pre x = true then if idE l x.1 = x.2.1 then if (setE l x.1 x.2.2).length ≤ 64 then 0 else 3 else 10 else 8
set_option maxHeartbeats 4000000 in
set_option maxRecDepth 100000 in
theorem wrong_calls (w : World) (A B : Option Addr) (c d : Nat) (l : List RefE) (us : List UpE) (h : RdL w A c l) (hu : RdU w B d us) (hl : l.length ≤ 100000) (hul : us.length ≤ 100000) (i : Nat) (hi : i < us.length)
    (nm : ByteArray) (x z : List Int) (hx : us[i] = (nm, x, z)) (hnm : nm.size ≤ 1000000) (pre : List UpE) (hpre : us.take i = pre) :
    Calls Try.prog 25 #[.slice A l.length c, .slice B us.length d, .int .i64 (i : Int)] w fun e w' => e = .returned (.int .i64 (wrongE l pre (nm, x, z))) ∧ Below w.heap.size w w' := by
  obtain ⟨W, hst0, hbW, hszW, hldW⟩ := box_id w id0 (by simp)
  change (Instr.storeAt 37 _ (.agg zid)).run Try.prog _ = _ at hst0
  have HBW := Aside0.mk hbW
  have HNONE := Aside0.mk (show ∀ w2, Below W.heap.size W w2 → (Instr.loadAt 37 (.pointer (some ⟨w.heap.size, 0, none⟩))).run Try.prog w2 = .ok (.agg zid) w2 from fun w2 hb => hldW w2 (hszW ▸ hb))
  have HL := Aside0.mk (h.below hbW)
  have hu2 := hu.below hbW
  obtain ⟨b, rfl, _⟩ := hu2.at i hi
  have HRU := Aside0.mk hu2
  have HUF := Aside0.mk (hu2.updF i hi nm x z hx)
  have hg := hu.good us[i] (List.getElem_mem hi)
  rw [hx] at hg
  have HX := Aside0.mk hg.1
  have HZ := Aside0.mk hg.2
  have HNM := Aside0.mk hnm
  obtain ⟨y, hy⟩ : ∃ y, idE l nm = y := ⟨_, rfl⟩
  have HY32 := Aside0.mk (show y.length = 32 by rw [← hy]; exact idE_length h.good nm)
  have HY := Aside0.mk hy
  have hplen : pre.length = i := by rw [← hpre, List.length_take]; omega
  obtain ⟨s, hs⟩ : ∃ s, posU pre nm = s := ⟨_, rfl⟩
  have hsi : s ≤ i := by rw [← hs, ← hplen]; exact posU_le pre nm
  have hjl : ∀ j, j < s → j < us.length := fun j hj => by omega
  have hsl : s < i → s < us.length := fun hj => by omega
  have HBF := Aside0.mk (show ∀ j, (hj : j < s) → eqB (us[j]'(hjl j hj)).1 nm = false from fun j hj => by
    have := posU_bef pre nm j (by rw [hs]; exact hj)
    simp only [← hpre, List.getElem_take] at this
    exact this)
  have HAT := Aside0.mk (show (hj : s < i) → eqB (us[s]'(hsl hj)).1 nm = true from fun hj => by
    subst hs
    subst hpre
    have := posU_at (us.take i) nm (by omega)
    rw [List.getElem_take] at this
    exact this)
  have hhas : hasU pre nm = decide (s < i) := by rw [hasU_pos, hs, hplen]
  have b1 : (0 : Int) ≤ (i : Int) := by omega
  have b2 : (i : Int) < (us.length : Int) := by omega
  have heq1 : ∀ W, (Op.equalIn 10000 37 (.agg (idc x).toArray) (.agg zid)).run Try.prog W = .ok (decide (x = id0)) W := fun W => eq_id0 x hg.1 W
  have heq2 : ∀ W, (Op.equalIn 10000 37 (.agg (idc z).toArray) (.agg zid)).run Try.prog W = .ok (decide (z = id0)) W := fun W => eq_id0 z hg.2 W
  have hw : wrongE l pre (nm, x, z) = if rightE pre (nm, x, z) = true then if y = x then if (setE l nm z).length ≤ 64 then 0 else 3 else 10 else 8 := by rw [← hy]; rfl
  have hr : rightE pre (nm, x, z) = (nameB nm && !hasU pre nm && !(decide (x = id0) && decide (z = id0))) := rfl
  obtain ⟨c1, hc1⟩ : ∃ b, nameB nm = b := ⟨_, rfl⟩
  obtain ⟨c3, hc3⟩ : ∃ b, decide (x = id0) = b := ⟨_, rfl⟩
  obtain ⟨c4, hc4⟩ : ∃ b, decide (z = id0) = b := ⟨_, rfl⟩
  rw [hc1, hc3, hc4, hhas] at hr
  rw [hc3] at heq1
  rw [hc4] at heq2
  have HW := Aside0.mk hw
  have HRT := Aside0.mk hr
  have H1 := Aside0.mk hc1
  have hbz := fun W => build_zid W
  have y0 := HUF.out.name W (Below.refl _ _)
  clear h hu hu2 hx hnm hpre hplen hs hhas hg hbW hszW hldW hy hw hr hc1 hc3 hc4
  cases c1 with
  | false =>
    have HE := Aside0.mk (show wrongE l pre (nm, x, z) = 8 by rw [HW.out, HRT.out]; rfl)
    clear heq1 heq2
    go_enter Try.func25, Try.ntmps25
    go_wp2_with (go_at_call 22; refine (docname_below nm HNM.out _).mono ?_; rw [H1.out]; rintro e w2 ⟨rfl, hb2⟩; have HB2 := Aside0.mk hb2; clear hb2)
    go_quiet (fail)
    go_wp2
    go_ret
    exact ⟨by rw [HE.out]; rfl, HBW.out.trans ((pw_below_drewN HB2.out nq).mono HBW.out.size)⟩
  | true =>
    cases c3 with
    | false =>
      have HNOT := Aside0.mk (show s < i → rightE pre (nm, x, z) = false from fun h => by rw [HRT.out, decide_eq_true h]; rfl)
      have HYES := Aside0.mk (show ¬ s < i → rightE pre (nm, x, z) = true from fun h => by rw [HRT.out, decide_eq_false h]; rfl)
      go_enter Try.func25, Try.ntmps25
      go_wp2_with (go_at_call 22; refine (docname_below nm HNM.out _).mono ?_; rw [H1.out]; rintro e w2 ⟨rfl, hb2⟩; have HB2 := Aside0.mk hb2; have o2 := fun n => HUF.out.old (w2.drewN n) (pw_below_drewN hb2 n); have n2 := fun n => HUF.out.new (w2.drewN n) (pw_below_drewN hb2 n); have v2 := fun n => HNONE.out (w2.drewN n) (pw_below_drewN hb2 n); clear hb2)
      go_quiet (fail)
      go_wp2
      go_loopw [9] (fun v9 w' => ∃ k : Nat, v9 = .int .i64 (k : Int) ∧ k ≤ s ∧ Aside0 (Below W.heap.size W w')) (fun v9 _ => i - (intOf v9).toNat)
      case atStart => exact ⟨0, rfl, Nat.zero_le _, ⟨pw_below_drewN HB2.out nq⟩⟩
      case round =>
        obtain ⟨k, rfl, hk, HB⟩ := hrel
        clear o2 n2 v2
        by_cases hlt : k < i
        · have e1 : decide ((k : Int) < (i : Int)) = true := decide_eq_true (by omega)
          have e3 : (0 : Int) ≤ (k : Int) := by omega
          have e4 : (k : Int) < (us.length : Int) := by omega
          have y1 := HUF.out.name wr HB.out
          obtain ⟨b', eb, y2⟩ := (HRU.out.below HB.out).name k (by omega)
          obtain rfl := Option.some.inj eb
          by_cases hks : k = s
          · have heq : eqB us[k].1 nm = true := by subst hks; exact HAT.out hlt
            obtain ⟨nx, hnx⟩ : ∃ nx, us[k].1 = nx := ⟨_, rfl⟩
            rw [hnx] at y2 heq
            change (nx.toList == nm.toList) = true at heq
            have HHAS := Aside0.mk (HNOT.out (by omega))
            clear hnx hks
            go_wp2
            go_quiet (fail)
            go_wp2
            go_ret
            exact ⟨by rw [HW.out, HHAS.out]; rfl, HBW.out.trans ((pw_below_drewN HB.out nq).mono HBW.out.size)⟩
          · have heq : eqB us[k].1 nm = false := HBF.out k (by omega)
            obtain ⟨nx, hnx⟩ : ∃ nx, us[k].1 = nx := ⟨_, rfl⟩
            rw [hnx] at y2 heq
            change (nx.toList == nm.toList) = false at heq
            have hk1 : k + 1 ≤ s := by omega
            clear hnx hks
            go_wp2
            go_quiet (fail)
            go_wp2
            go_roundw
            case rel => exact ⟨k + 1, by go_num, by omega, ⟨pw_below_drewN HB.out _⟩⟩
            case measure => simp [intOf]; omega
        · have e1 : decide ((k : Int) < (i : Int)) = false := decide_eq_false (by omega)
          have HYES1 := Aside0.mk (HYES.out (by omega))
          have y1 := HUF.out.name wr HB.out
          by_cases hyx : y = x
          · have HEQ := Aside0.mk (show ∀ W, (Op.equalIn 10000 37 (.agg (idc y).toArray) (.agg (idc x).toArray)).run Try.prog W = .ok true W from fun W => by
              have := eq_ids (P := Try.prog) W 9998 37 5 32 Try.underlying37 Try.underlying5 (fun w => Try.sizeOf5 w) y x HY32.out HX.out
              rw [decide_eq_true hyx] at this
              exact this)
            have HW2 := Aside0.mk (show wrongE l pre (nm, x, z) = if (setE l nm z).length ≤ 64 then 0 else 3 by rw [HW.out, HYES1.out, if_pos rfl, if_pos hyx])
            clear hyx
            by_cases h64 : (setE l nm z).length ≤ 64
            · have HE := Aside0.mk (HW2.out.trans (if_pos h64))
              have c64 : decide ((64 : Int) < ((setE l nm z).length : Int)) = false := decide_eq_false (by omega)
              clear h64
              go_wp2_with (go_at_call 20; refine (docfind_calls _ _ _ l (HL.out.below HB.out) (by omega) nm).mono ?_; rw [HY.out]; rintro e w3 ⟨rfl, hb3⟩; have HB3 := Aside0.mk (HB.out.trans (hb3.mono HB.out.size)); obtain ⟨w4, hst4, hb4, hsz4, hld4⟩ := box_id w3 y HY32.out; have HB4 := Aside0.mk (HB3.out.trans (hb4.mono HB3.out.size)); have l4 := fun n => hld4 (w4.drewN n) (hsz4 ▸ pw_below_drewN (Below.refl _ _) n); have o4 := fun n => HUF.out.old (w4.drewN n) (pw_below_drewN HB4.out n); have q4 := fun n => HEQ.out (w4.drewN n); clear hb3 hb4 hsz4 hld4)
              go_quiet (fail)
              go_wp2
              clear l4 o4 q4
              have HB5 := Aside0.mk (pw_below_drewN HB4.out nq)
              obtain ⟨w5, hw5⟩ : ∃ w5, w5 = w4.drewN nq := ⟨_, rfl⟩
              rw [← hw5] at HB5 ⊢
              clear hw5
              have y5 := HUF.out.name w5 HB5.out
              have z5 : (Instr.loadAt 37 (.pointer (some ⟨(b.add (i * 65)).block, (b.add (i * 65)).off + 33, none⟩))).run Try.prog w5.drew = .ok (.agg (idc z).toArray) w5.drew := HUF.out.new w5.drew (pw_below_drewN HB5.out 1)
              go_still_tail 11, (by kernel_rfl)
              go_wp2_with (go_at_call 26; refine (docset_calls _ _ _ l (HL.out.below (pw_below_drewN HB5.out 1)) (by omega) nm z HZ.out).mono ?_; rintro e w6 ⟨v6, rfl, hR6, hG6, hb6⟩; obtain ⟨A6, c6, hv6, _⟩ := RdL.of_rw hR6 hG6; subst hv6; have HB6 := Aside0.mk ((pw_below_drewN HB5.out 1).trans (hb6.mono HB5.out.size)); clear hR6 hG6 hb6)
              go_ret
              exact ⟨by rw [HE.out]; rfl, HBW.out.trans (HB6.out.mono HBW.out.size)⟩
            · have HE := Aside0.mk (HW2.out.trans (if_neg h64))
              have c64 : decide ((64 : Int) < ((setE l nm z).length : Int)) = true := decide_eq_true (by omega)
              clear h64
              go_wp2_with (go_at_call 20; refine (docfind_calls _ _ _ l (HL.out.below HB.out) (by omega) nm).mono ?_; rw [HY.out]; rintro e w3 ⟨rfl, hb3⟩; have HB3 := Aside0.mk (HB.out.trans (hb3.mono HB.out.size)); obtain ⟨w4, hst4, hb4, hsz4, hld4⟩ := box_id w3 y HY32.out; have HB4 := Aside0.mk (HB3.out.trans (hb4.mono HB3.out.size)); have l4 := fun n => hld4 (w4.drewN n) (hsz4 ▸ pw_below_drewN (Below.refl _ _) n); have o4 := fun n => HUF.out.old (w4.drewN n) (pw_below_drewN HB4.out n); have q4 := fun n => HEQ.out (w4.drewN n); clear hb3 hb4 hsz4 hld4)
              go_quiet (fail)
              go_wp2
              clear l4 o4 q4
              have HB5 := Aside0.mk (pw_below_drewN HB4.out nq)
              obtain ⟨w5, hw5⟩ : ∃ w5, w5 = w4.drewN nq := ⟨_, rfl⟩
              rw [← hw5] at HB5 ⊢
              clear hw5
              have y5 := HUF.out.name w5 HB5.out
              have z5 : (Instr.loadAt 37 (.pointer (some ⟨(b.add (i * 65)).block, (b.add (i * 65)).off + 33, none⟩))).run Try.prog w5.drew = .ok (.agg (idc z).toArray) w5.drew := HUF.out.new w5.drew (pw_below_drewN HB5.out 1)
              go_still_tail 11, (by kernel_rfl)
              go_wp2_with (go_at_call 26; refine (docset_calls _ _ _ l (HL.out.below (pw_below_drewN HB5.out 1)) (by omega) nm z HZ.out).mono ?_; rintro e w6 ⟨v6, rfl, hR6, hG6, hb6⟩; obtain ⟨A6, c6, hv6, _⟩ := RdL.of_rw hR6 hG6; subst hv6; have HB6 := Aside0.mk ((pw_below_drewN HB5.out 1).trans (hb6.mono HB5.out.size)); clear hR6 hG6 hb6)
              go_ret
              exact ⟨by rw [HE.out]; rfl, HBW.out.trans (HB6.out.mono HBW.out.size)⟩
          · have HEQ := Aside0.mk (show ∀ W, (Op.equalIn 10000 37 (.agg (idc y).toArray) (.agg (idc x).toArray)).run Try.prog W = .ok false W from fun W => by
              have := eq_ids (P := Try.prog) W 9998 37 5 32 Try.underlying37 Try.underlying5 (fun w => Try.sizeOf5 w) y x HY32.out HX.out
              rw [decide_eq_false hyx] at this
              exact this)
            have HE := Aside0.mk (show wrongE l pre (nm, x, z) = 10 by rw [HW.out, HYES1.out, if_pos rfl, if_neg hyx])
            clear hyx
            go_wp2_with (go_at_call 20; refine (docfind_calls _ _ _ l (HL.out.below HB.out) (by omega) nm).mono ?_; rw [HY.out]; rintro e w3 ⟨rfl, hb3⟩; have HB3 := Aside0.mk (HB.out.trans (hb3.mono HB.out.size)); obtain ⟨w4, hst4, hb4, hsz4, hld4⟩ := box_id w3 y HY32.out; have HB4 := Aside0.mk (HB3.out.trans (hb4.mono HB3.out.size)); have l4 := fun n => hld4 (w4.drewN n) (hsz4 ▸ pw_below_drewN (Below.refl _ _) n); have o4 := fun n => HUF.out.old (w4.drewN n) (pw_below_drewN HB4.out n); have q4 := fun n => HEQ.out (w4.drewN n); clear hb3 hb4 hsz4 hld4)
            go_quiet (fail)
            go_wp2
            go_ret
            exact ⟨by rw [HE.out]; rfl, HBW.out.trans ((pw_below_drewN HB4.out nq).mono HBW.out.size)⟩
    | true =>
      cases c4 with
      | false =>
        have HNOT := Aside0.mk (show s < i → rightE pre (nm, x, z) = false from fun h => by rw [HRT.out, decide_eq_true h]; rfl)
        have HYES := Aside0.mk (show ¬ s < i → rightE pre (nm, x, z) = true from fun h => by rw [HRT.out, decide_eq_false h]; rfl)
        go_enter Try.func25, Try.ntmps25
        go_wp2_with (go_at_call 22; refine (docname_below nm HNM.out _).mono ?_; rw [H1.out]; rintro e w2 ⟨rfl, hb2⟩; have HB2 := Aside0.mk hb2; have o2 := fun n => HUF.out.old (w2.drewN n) (pw_below_drewN hb2 n); have n2 := fun n => HUF.out.new (w2.drewN n) (pw_below_drewN hb2 n); have v2 := fun n => HNONE.out (w2.drewN n) (pw_below_drewN hb2 n); clear hb2)
        go_quiet (fail)
        go_wp2
        go_loopw [9] (fun v9 w' => ∃ k : Nat, v9 = .int .i64 (k : Int) ∧ k ≤ s ∧ Aside0 (Below W.heap.size W w')) (fun v9 _ => i - (intOf v9).toNat)
        case atStart => exact ⟨0, rfl, Nat.zero_le _, ⟨pw_below_drewN HB2.out nq⟩⟩
        case round =>
          obtain ⟨k, rfl, hk, HB⟩ := hrel
          clear o2 n2 v2
          by_cases hlt : k < i
          · have e1 : decide ((k : Int) < (i : Int)) = true := decide_eq_true (by omega)
            have e3 : (0 : Int) ≤ (k : Int) := by omega
            have e4 : (k : Int) < (us.length : Int) := by omega
            have y1 := HUF.out.name wr HB.out
            obtain ⟨b', eb, y2⟩ := (HRU.out.below HB.out).name k (by omega)
            obtain rfl := Option.some.inj eb
            by_cases hks : k = s
            · have heq : eqB us[k].1 nm = true := by subst hks; exact HAT.out hlt
              obtain ⟨nx, hnx⟩ : ∃ nx, us[k].1 = nx := ⟨_, rfl⟩
              rw [hnx] at y2 heq
              change (nx.toList == nm.toList) = true at heq
              have HHAS := Aside0.mk (HNOT.out (by omega))
              clear hnx hks
              go_wp2
              go_quiet (fail)
              go_wp2
              go_ret
              exact ⟨by rw [HW.out, HHAS.out]; rfl, HBW.out.trans ((pw_below_drewN HB.out nq).mono HBW.out.size)⟩
            · have heq : eqB us[k].1 nm = false := HBF.out k (by omega)
              obtain ⟨nx, hnx⟩ : ∃ nx, us[k].1 = nx := ⟨_, rfl⟩
              rw [hnx] at y2 heq
              change (nx.toList == nm.toList) = false at heq
              have hk1 : k + 1 ≤ s := by omega
              clear hnx hks
              go_wp2
              go_quiet (fail)
              go_wp2
              go_roundw
              case rel => exact ⟨k + 1, by go_num, by omega, ⟨pw_below_drewN HB.out _⟩⟩
              case measure => simp [intOf]; omega
          · have e1 : decide ((k : Int) < (i : Int)) = false := decide_eq_false (by omega)
            have HYES1 := Aside0.mk (HYES.out (by omega))
            have y1 := HUF.out.name wr HB.out
            by_cases hyx : y = x
            · have HEQ := Aside0.mk (show ∀ W, (Op.equalIn 10000 37 (.agg (idc y).toArray) (.agg (idc x).toArray)).run Try.prog W = .ok true W from fun W => by
                have := eq_ids (P := Try.prog) W 9998 37 5 32 Try.underlying37 Try.underlying5 (fun w => Try.sizeOf5 w) y x HY32.out HX.out
                rw [decide_eq_true hyx] at this
                exact this)
              have HW2 := Aside0.mk (show wrongE l pre (nm, x, z) = if (setE l nm z).length ≤ 64 then 0 else 3 by rw [HW.out, HYES1.out, if_pos rfl, if_pos hyx])
              clear hyx
              by_cases h64 : (setE l nm z).length ≤ 64
              · have HE := Aside0.mk (HW2.out.trans (if_pos h64))
                have c64 : decide ((64 : Int) < ((setE l nm z).length : Int)) = false := decide_eq_false (by omega)
                clear h64
                go_wp2_with (go_at_call 20; refine (docfind_calls _ _ _ l (HL.out.below HB.out) (by omega) nm).mono ?_; rw [HY.out]; rintro e w3 ⟨rfl, hb3⟩; have HB3 := Aside0.mk (HB.out.trans (hb3.mono HB.out.size)); obtain ⟨w4, hst4, hb4, hsz4, hld4⟩ := box_id w3 y HY32.out; have HB4 := Aside0.mk (HB3.out.trans (hb4.mono HB3.out.size)); have l4 := fun n => hld4 (w4.drewN n) (hsz4 ▸ pw_below_drewN (Below.refl _ _) n); have o4 := fun n => HUF.out.old (w4.drewN n) (pw_below_drewN HB4.out n); have q4 := fun n => HEQ.out (w4.drewN n); clear hb3 hb4 hsz4 hld4)
                go_quiet (fail)
                go_wp2
                clear l4 o4 q4
                have HB5 := Aside0.mk (pw_below_drewN HB4.out nq)
                obtain ⟨w5, hw5⟩ : ∃ w5, w5 = w4.drewN nq := ⟨_, rfl⟩
                rw [← hw5] at HB5 ⊢
                clear hw5
                have y5 := HUF.out.name w5 HB5.out
                have z5 : (Instr.loadAt 37 (.pointer (some ⟨(b.add (i * 65)).block, (b.add (i * 65)).off + 33, none⟩))).run Try.prog w5.drew = .ok (.agg (idc z).toArray) w5.drew := HUF.out.new w5.drew (pw_below_drewN HB5.out 1)
                go_still_tail 11, (by kernel_rfl)
                go_wp2_with (go_at_call 26; refine (docset_calls _ _ _ l (HL.out.below (pw_below_drewN HB5.out 1)) (by omega) nm z HZ.out).mono ?_; rintro e w6 ⟨v6, rfl, hR6, hG6, hb6⟩; obtain ⟨A6, c6, hv6, _⟩ := RdL.of_rw hR6 hG6; subst hv6; have HB6 := Aside0.mk ((pw_below_drewN HB5.out 1).trans (hb6.mono HB5.out.size)); clear hR6 hG6 hb6)
                go_ret
                exact ⟨by rw [HE.out]; rfl, HBW.out.trans (HB6.out.mono HBW.out.size)⟩
              · have HE := Aside0.mk (HW2.out.trans (if_neg h64))
                have c64 : decide ((64 : Int) < ((setE l nm z).length : Int)) = true := decide_eq_true (by omega)
                clear h64
                go_wp2_with (go_at_call 20; refine (docfind_calls _ _ _ l (HL.out.below HB.out) (by omega) nm).mono ?_; rw [HY.out]; rintro e w3 ⟨rfl, hb3⟩; have HB3 := Aside0.mk (HB.out.trans (hb3.mono HB.out.size)); obtain ⟨w4, hst4, hb4, hsz4, hld4⟩ := box_id w3 y HY32.out; have HB4 := Aside0.mk (HB3.out.trans (hb4.mono HB3.out.size)); have l4 := fun n => hld4 (w4.drewN n) (hsz4 ▸ pw_below_drewN (Below.refl _ _) n); have o4 := fun n => HUF.out.old (w4.drewN n) (pw_below_drewN HB4.out n); have q4 := fun n => HEQ.out (w4.drewN n); clear hb3 hb4 hsz4 hld4)
                go_quiet (fail)
                go_wp2
                clear l4 o4 q4
                have HB5 := Aside0.mk (pw_below_drewN HB4.out nq)
                obtain ⟨w5, hw5⟩ : ∃ w5, w5 = w4.drewN nq := ⟨_, rfl⟩
                rw [← hw5] at HB5 ⊢
                clear hw5
                have y5 := HUF.out.name w5 HB5.out
                have z5 : (Instr.loadAt 37 (.pointer (some ⟨(b.add (i * 65)).block, (b.add (i * 65)).off + 33, none⟩))).run Try.prog w5.drew = .ok (.agg (idc z).toArray) w5.drew := HUF.out.new w5.drew (pw_below_drewN HB5.out 1)
                go_still_tail 11, (by kernel_rfl)
                go_wp2_with (go_at_call 26; refine (docset_calls _ _ _ l (HL.out.below (pw_below_drewN HB5.out 1)) (by omega) nm z HZ.out).mono ?_; rintro e w6 ⟨v6, rfl, hR6, hG6, hb6⟩; obtain ⟨A6, c6, hv6, _⟩ := RdL.of_rw hR6 hG6; subst hv6; have HB6 := Aside0.mk ((pw_below_drewN HB5.out 1).trans (hb6.mono HB5.out.size)); clear hR6 hG6 hb6)
                go_ret
                exact ⟨by rw [HE.out]; rfl, HBW.out.trans (HB6.out.mono HBW.out.size)⟩
            · have HEQ := Aside0.mk (show ∀ W, (Op.equalIn 10000 37 (.agg (idc y).toArray) (.agg (idc x).toArray)).run Try.prog W = .ok false W from fun W => by
                have := eq_ids (P := Try.prog) W 9998 37 5 32 Try.underlying37 Try.underlying5 (fun w => Try.sizeOf5 w) y x HY32.out HX.out
                rw [decide_eq_false hyx] at this
                exact this)
              have HE := Aside0.mk (show wrongE l pre (nm, x, z) = 10 by rw [HW.out, HYES1.out, if_pos rfl, if_neg hyx])
              clear hyx
              go_wp2_with (go_at_call 20; refine (docfind_calls _ _ _ l (HL.out.below HB.out) (by omega) nm).mono ?_; rw [HY.out]; rintro e w3 ⟨rfl, hb3⟩; have HB3 := Aside0.mk (HB.out.trans (hb3.mono HB.out.size)); obtain ⟨w4, hst4, hb4, hsz4, hld4⟩ := box_id w3 y HY32.out; have HB4 := Aside0.mk (HB3.out.trans (hb4.mono HB3.out.size)); have l4 := fun n => hld4 (w4.drewN n) (hsz4 ▸ pw_below_drewN (Below.refl _ _) n); have o4 := fun n => HUF.out.old (w4.drewN n) (pw_below_drewN HB4.out n); have q4 := fun n => HEQ.out (w4.drewN n); clear hb3 hb4 hsz4 hld4)
              go_quiet (fail)
              go_wp2
              go_ret
              exact ⟨by rw [HE.out]; rfl, HBW.out.trans ((pw_below_drewN HB4.out nq).mono HBW.out.size)⟩
      | true =>
        have HE := Aside0.mk (show wrongE l pre (nm, x, z) = 8 by rw [HW.out, HRT.out]; cases decide (s < i) <;> rfl)
        go_enter Try.func25, Try.ntmps25
        go_wp2_with (go_at_call 22; refine (docname_below nm HNM.out _).mono ?_; rw [H1.out]; rintro e w2 ⟨rfl, hb2⟩; have HB2 := Aside0.mk hb2; have o2 := fun n => HUF.out.old (w2.drewN n) (pw_below_drewN hb2 n); have n2 := fun n => HUF.out.new (w2.drewN n) (pw_below_drewN hb2 n); have v2 := fun n => HNONE.out (w2.drewN n) (pw_below_drewN hb2 n); clear hb2)
        go_quiet (fail)
        go_wp2
        go_ret
        exact ⟨by rw [HE.out]; rfl, HBW.out.trans ((pw_below_drewN HB2.out nq).mono HBW.out.size)⟩
end Go.Proofs.Ytklbemgepeleoaa.Rf
