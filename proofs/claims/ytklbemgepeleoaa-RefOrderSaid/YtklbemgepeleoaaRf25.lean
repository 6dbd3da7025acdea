/- Updates appended to a row of the call's own. -/
import Derived.Test.YtklbemgepeleoaaRf24
import Derived.Test.YtklbemgepeleoaaRp2
set_option linter.unusedVariables false
set_option linter.unusedSimpArgs false
namespace Go.Proofs.Ytklbemgepeleoaa.Rf
open Go.RowKit Go.Proofs.Ytklbemgepeleoaa.Lk Go.Proofs.YtklbemgepeleoaaW.PrintWords Go.Proofs.YtklbemgepeleoaaW.PrintLast Go.Proofs.YtklbemgepeleoaaW.PrintMore
set_option maxRecDepth 100000 in
theorem build_urow0 (a0 a1 a2 a3 a4 a5 a6 a7 a8 a9 a10 a11 a12 a13 a14 a15 a16 a17 a18 a19 a20 a21 a22 a23 a24 a25 a26 a27 a28 a29 a30 a31 b0 b1 b2 b3 b4 b5 b6 b7 b8 b9 b10 b11 b12 b13 b14 b15 b16 b17 b18 b19 b20 b21 b22 b23 b24 b25 b26 b27 b28 b29 b30 b31 : Int) (nm : ByteArray) (w : World) : (Instr.buildSlice 23 1 #[(0, .agg (.string nm :: (idc [a0, a1, a2, a3, a4, a5, a6, a7, a8, a9, a10, a11, a12, a13, a14, a15, a16, a17, a18, a19, a20, a21, a22, a23, a24, a25, a26, a27, a28, a29, a30, a31] ++ idc [b0, b1, b2, b3, b4, b5, b6, b7, b8, b9, b10, b11, b12, b13, b14, b15, b16, b17, b18, b19, b20, b21, b22, b23, b24, b25, b26, b27, b28, b29, b30, b31])).toArray)]).run Try.prog w = .ok (.slice (some ⟨w.heap.size, 0, none⟩) 1 1) (w.alloc (.cells (.string nm :: (idc [a0, a1, a2, a3, a4, a5, a6, a7, a8, a9, a10, a11, a12, a13, a14, a15, a16, a17, a18, a19, a20, a21, a22, a23, a24, a25, a26, a27, a28, a29, a30, a31] ++ idc [b0, b1, b2, b3, b4, b5, b6, b7, b8, b9, b10, b11, b12, b13, b14, b15, b16, b17, b18, b19, b20, b21, b22, b23, b24, b25, b26, b27, b28, b29, b30, b31])).toArray 39)) := by kernel_rfl
theorem build_urow (nm : ByteArray) (x z : List Int) (hx : x.length = 32) (hz : z.length = 32) (w : World) : (Instr.buildSlice 23 1 #[(0, .agg (.string nm :: (idc x ++ idc z)).toArray)]).run Try.prog w = .ok (.slice (some ⟨w.heap.size, 0, none⟩) 1 1) (w.alloc (.cells (.string nm :: (idc x ++ idc z)).toArray 39)) := by
  match x, hx with
  | [a0, a1, a2, a3, a4, a5, a6, a7, a8, a9, a10, a11, a12, a13, a14, a15, a16, a17, a18, a19, a20, a21, a22, a23, a24, a25, a26, a27, a28, a29, a30, a31], _ =>
    match z, hz with
    | [b0, b1, b2, b3, b4, b5, b6, b7, b8, b9, b10, b11, b12, b13, b14, b15, b16, b17, b18, b19, b20, b21, b22, b23, b24, b25, b26, b27, b28, b29, b30, b31], _ => exact build_urow0 a0 a1 a2 a3 a4 a5 a6 a7 a8 a9 a10 a11 a12 a13 a14 a15 a16 a17 a18 a19 a20 a21 a22 a23 a24 a25 a26 a27 a28 a29 a30 a31 b0 b1 b2 b3 b4 b5 b6 b7 b8 b9 b10 b11 b12 b13 b14 b15 b16 b17 b18 b19 b20 b21 b22 b23 b24 b25 b26 b27 b28 b29 b30 b31 nm w
theorem infoU : (Try.prog.info? 39).map (fun i => (i.zero, i.size, i.bytes)) = some (some (.agg zc39), 65, 80) := by kernel_rfl
theorem ucells_append (l m : List UpE) : ucells (l ++ m) = ucells l ++ ucells m := by simp [ucells]
theorem rdu_of_rw {w : World} {v : Value} {l : List UpE} (h : Rw w 39 65 v l.length (ucells l)) (hg : Good64 l) : ∃ A c, v = .slice A l.length c ∧ RdU w A c l := by
  obtain ⟨A, c, rfl, hc, hcell⟩ := h.form
  exact ⟨A, c, rfl, hc, hg, hcell⟩
structure OwnU (W wr : World) (v : Value) (out : List UpE) : Prop where
  row : Rw wr 39 65 v out.length (ucells out)
  good : Good64 out
  below : Below W.heap.size W wr
  fresh : ∀ k, v.ownBlock = some k → W.heap.size ≤ k
theorem OwnU.nil (W : World) : OwnU W W (.slice none 0 0) [] := ⟨Rw.nil _ _ _, fun _ h => absurd h (by simp), Below.refl _ _, fun k hk => by simp [Value.ownBlock] at hk⟩
theorem OwnU.app {W wr : World} {v : Value} {out : List UpE} (h : OwnU W wr v out) (hi : out.length ≤ 1000000) (nm : ByteArray) (x z : List Int) (hx : x.length = 32) (hz : z.length = 32) :
    ∃ v6 w6, (Builtin.append_ #[23, 23] 23 #[v, .slice (some ⟨wr.heap.size, 0, none⟩) 1 1]).run Try.prog (wr.alloc (.cells (.string nm :: (idc x ++ idc z)).toArray 39)) = .ok v6 w6 ∧ OwnU W w6 v6 (out ++ [(nm, x, z)]) := by
  obtain ⟨i0, hi0, hz0, hs0, hb0⟩ := info_parts infoU
  have hl := ucell_length (x := (nm, x, z)) ⟨hx, hz⟩
  have hcell : ∀ j u, (ucell (nm, x, z))[j]? = some u → (wr.alloc (.cells (.string nm :: (idc x ++ idc z)).toArray 39)).cell? ((⟨wr.heap.size, 0, none⟩ : Addr).add j) = some u := fun j u hj => by
    rw [add_, Nat.zero_add, cell_of_row _ _ j _ _ (0, 0) (heap_alloc_last wr _)]
    simpa [ucell] using hj
  obtain ⟨v6, w6, hr, hR, hG, ho⟩ := run_append_rw (P := Try.prog) (wr.alloc (.cells (.string nm :: (idc x ++ idc z)).toArray 39)) 23 23 39 i0 _ 65 80 (by kernel_rfl) hi0 hz0 hs0 hb0 rfl v out.length (ucells out) (h.row.alloc _) ⟨wr.heap.size, 0, none⟩ 1 1 (ucell (nm, x, z)) (by rw [hl]) hcell (ucell_one _) (by omega) (by simp only [maxLen]; omega) (by omega)
  refine ⟨v6, w6, hr, by rw [ucells_append, List.length_append]; simpa [ucells] using hR, fun y hy => ?_, pw_below_grown (h.below.alloc h.below.size _) _ (Nat.le_trans h.below.size (by simp)) hG h.fresh, fun k hk => ?_⟩
  · rcases List.mem_append.mp hy with hy | hy
    · exact h.good y hy
    · rw [List.mem_singleton.mp hy]; exact ⟨hx, hz⟩
  · rcases ho with h1 | h1
    · exact h.fresh k (h1 ▸ hk)
    · rw [h1] at hk
      injection hk with hk
      have := h.below.size
      simp at hk
      omega
attribute [local go_sem] max2_int min2_int max_two min_two max_three min_three max_four min_four
attribute [-simp] Try.isAgg37 Try.isAgg54 Try.isAgg39
attribute [-go_sem] Instr.loadAt Instr.storeAt Instr.build Instr.buildSlice run_equalIn_agg
attribute [local go_sem] loadAt9 loadAt3 loadAt28
theorem cnt_take {told : List Int} {k : Nat} (hk : k < told.length) : cntE (told.take (k + 1)) = if told[k] = 0 then cntE (told.take k) else cntE (told.take k) + 1 := by
  rw [List.take_succ_eq_append_getElem hk, cntE_snoc]
theorem cnt_all {told : List Int} (h : ∀ e ∈ told, e ≠ 0) : cntE told = told.length := by
  unfold cntE
  rw [List.filter_eq_self.mpr (fun e he => by simpa using h e he)]
/-- What is told where all are asked: all hold, or none. -/
theorem upd_all (us : List UpE) (l : List RefE) (hf : Fine l) (hlen : l.length + us.length ≤ 64) (htl : (updE us l true).2.length = us.length) :
    (Fine (updE us l true).1 ∧ cntE (updE us l true).2 = 0 ∧ updE us.reverse l true = ((updE us l true).1, (updE us.reverse l true).2)) ∨
    ((updE us l true).1 = l ∧ cntE (updE us l true).2 = us.length ∧ 0 < us.length) := by
  cases hb : badB (runE us l us.length).2 with
  | false =>
    obtain ⟨h1, h2, h3⟩ := order_plain us l hf hlen hb
    have e1 : updE us l true = runE us l us.length := by unfold updE; rw [hb, if_neg (by simp)]
    have e2 : updE us.reverse l true = runE us.reverse l us.length := by unfold updE; rw [List.length_reverse, h2, if_neg (by simp)]
    refine .inl ⟨by rw [e1]; exact h1, ?_, ?_⟩
    · rw [e1]
      have := cntE_bad (runE us l us.length).2
      rw [hb] at this
      have := of_decide_eq_false this.symm
      omega
    · rw [e1, e2, ← h3]
  | true =>
    have e1 : updE us l true = (l, (runE us l us.length).2.map fixI) := by unfold updE; rw [hb]; rfl
    have hl : (runE us l us.length).2.length = us.length := by rw [e1] at htl; simpa using htl
    refine .inr ⟨by rw [e1], ?_, ?_⟩
    · rw [e1, cnt_all (fun e he => ?_), List.length_map, hl]
      obtain ⟨q, _, rfl⟩ := List.mem_map.mp he
      unfold fixI
      split
      · decide
      · assumption
    · rw [← hl]
      cases h : (runE us l us.length).2 with
      | nil => rw [h] at hb; simp [badB] at hb
      | cons a b => simp
set_option maxHeartbeats 4000000 in
set_option maxRecDepth 100000 in
theorem reforder_calls (w : World) (A B : Option Addr) (c d : Nat) (l : List RefE) (us : List UpE) (h : RdL w A c l) (hu : RdU w B d us) :
    Calls Try.prog 4 #[.slice A l.length c, .slice B us.length d] w fun e w' => e = .returned (.bool true) ∧ Below w.heap.size w w' := by
  have HR := Aside0.mk h
  have HU := Aside0.mk hu
  clear h hu
  go_enter Try.func4, Try.ntmps4
  go_wp2_with fail
  refine (few_calls _ _ _ _ HR.out).mono ?_
  rintro e w2 ⟨b1, rfl, hb1, hB2⟩
  have HB2 := Aside0.mk hB2
  have HF1 := Aside0.mk hb1
  clear hb1 hB2
  go_wp2_with fail
  refine (short_calls _ _ _ _ (HU.out.below HB2.out)).mono ?_
  rintro e w3 ⟨b2, rfl, hb2, hB3⟩
  have HB3 := Aside0.mk (HB2.out.trans (hB3.mono HB2.out.size))
  have HF2 := Aside0.mk hb2
  clear hb2 hB3
  cases b1 with
  | false =>
    go_wp2_with (go_at_call 9; refine (knows_calls _).mono ?_; rintro e w9 ⟨rfl, hb9⟩; have HB9 := Aside0.mk (HB3.out.trans (hb9.mono HB3.out.size)); clear hb9)
    go_ret
    exact ⟨rfl, HB9.out⟩
  | true =>
    cases b2 with
    | false =>
      go_wp2_with (go_at_call 9; refine (knows_calls _).mono ?_; rintro e w9 ⟨rfl, hb9⟩; have HB9 := Aside0.mk (HB3.out.trans (hb9.mono HB3.out.size)); clear hb9)
      go_ret
      exact ⟨rfl, HB9.out⟩
    | true =>
      obtain ⟨hl70, hln⟩ := HF1.out rfl
      obtain ⟨hu30, hun⟩ := HF2.out rfl
      have HLN := Aside0.mk (show ∀ x ∈ l, x.1.size ≤ 1000000 from fun x hx => Nat.le_trans (hln x hx) (by omega))
      have HUN := Aside0.mk (show ∀ x ∈ us, x.1.size ≤ 1000000 from fun x hx => Nat.le_trans (hun x hx) (by omega))
      clear hln hun HF1 HF2
      by_cases hsum : l.length + us.length ≤ 64
      · have c1 : decide ((64 : Int) < (l.length : Int) + (us.length : Int)) = false := decide_eq_false (by omega)
        by_cases hf : Fine l
        · have HFI := Aside0.mk hf
          clear hf
          go_wp2_with (go_at_call 10; refine (update_yes _ _ _ _ _ _ _ true (HR.out.below HB3.out) (HU.out.below HB3.out) HLN.out HUN.out (by omega) (by omega) HFI.out).mono ?_; rintro e w4 ⟨v4, t4, rfl, hp4⟩; have HP4 := Aside0.mk hp4; have HB4 := Aside0.mk (HB3.out.trans (hp4.below.mono HB3.out.size)); clear hp4)
          obtain ⟨m, hm⟩ : ∃ R, (updE us l true).1 = R := ⟨_, rfl⟩
          obtain ⟨told, ht⟩ : ∃ R, (updE us l true).2 = R := ⟨_, rfl⟩
          have hall := upd_all us l HFI.out hsum HP4.out.tl
          have hr4 := HP4.out.row
          have ht4 := HP4.out.trow
          have hg4 := HP4.out.good
          have htl := HP4.out.tl
          have hfew := HP4.out.few
          rw [hm] at hr4 hg4 hfew hall
          rw [ht] at ht4 htl hall
          obtain ⟨A4, c4, rfl, hd4⟩ := RdL.of_rw hr4 hg4
          have HD4 := Aside0.mk hd4
          have HT4 := Aside0.mk ht4
          have HTL := Aside0.mk htl
          have HALL := Aside0.mk hall
          obtain ⟨B4, d4, rfl, hnd4, _⟩ := ht4.form
          clear hr4 ht4 hg4 hm ht htl hd4 hall
          go_loopw [10, 11] (fun v10 v11 w' => ∃ k r : Nat, v10 = .int .i64 (r : Int) ∧ v11 = .int .i64 (k : Int) ∧ k ≤ us.length ∧ r ≤ k ∧ Aside0 (r = cntE (told.take k)) ∧ Aside0 (Below w4.heap.size w4 w')) (fun _ v11 _ => us.length - (intOf v11).toNat)
          case atStart => exact ⟨0, 0, rfl, rfl, Nat.zero_le _, Nat.le_refl _, ⟨rfl⟩, ⟨Below.refl _ _⟩⟩
          case round =>
            obtain ⟨k, r, rfl, rfl, hk, hrk, HRC, HB⟩ := hrel
            by_cases hlt : k < us.length
            · have e1 : decide ((k : Int) < (us.length : Int)) = true := decide_eq_true (by omega)
              have e3 : (0 : Int) ≤ (k : Int) := by omega
              have e4 : (k : Int) < (us.length : Int) := by omega
              have hkt : k < told.length := by rw [HTL.out]; exact hlt
              obtain ⟨g2, o2, q2, hv2, _, hc2⟩ := (rw_below HT4.out HB.out).form2 (by omega)
              obtain ⟨rfl, rfl⟩ : B4 = some ⟨g2, o2, none⟩ ∧ d4 = q2 := by injection hv2 with h1 h2 h3; exact ⟨h1, h3⟩
              have y2 : wr.cell? ⟨g2, o2 + k, none⟩ = some (.int .i64 told[k]) := hc2 k _ (by unfold icells; rw [List.getElem?_map, List.getElem?_eq_getElem hkt]; rfl)
              have HCT := Aside0.mk (cnt_take hkt)
              obtain ⟨e, he⟩ : ∃ e, told[k] = e := ⟨_, rfl⟩
              rw [he] at y2 HCT
              clear hv2 hc2 he hkt
              by_cases h0 : e = 0
              · have c4 : (e == 0) = true := by rw [h0]; rfl
                have c5 : (e != 0) = false := by rw [h0]; rfl
                have HNX := Aside0.mk (show r = cntE (told.take (k + 1)) by rw [HCT.out, if_pos h0]; exact HRC.out)
                clear h0
                go_wp2
                go_roundw
                case rel => exact ⟨k + 1, r, rfl, by go_num, by omega, by omega, HNX, HB⟩
                case measure => simp [intOf]; omega
              · have c4 : (e == 0) = false := beq_eq_false_iff_ne.mpr h0
                have c5 : (e != 0) = true := by rw [bne, c4]; rfl
                have HNX := Aside0.mk (show r + 1 = cntE (told.take (k + 1)) by rw [HCT.out, if_neg h0, HRC.out])
                clear h0
                go_wp2
                go_roundw
                case rel => exact ⟨k + 1, r + 1, by go_num, by go_num, by omega, by omega, HNX, HB⟩
                case measure => simp [intOf]; omega
            · have e1 : decide ((k : Int) < (us.length : Int)) = false := decide_eq_false (by omega)
              obtain rfl : k = us.length := by omega
              have hr0 : r = cntE told := by rw [HRC.out, List.take_of_length_le (by rw [HTL.out]; exact Nat.le_refl _)]
              have HD := Aside0.mk (HD4.out.below HB.out)
              have HBR := Aside0.mk (HB4.out.trans (HB.out.mono HB4.out.size))
              rcases HALL.out with ⟨hfm, hc0, hrev⟩ | ⟨rfl, hcn, hpos⟩
              · obtain rfl : r = 0 := by rw [hr0, hc0]
                have HFM := Aside0.mk hfm
                have HREV := Aside0.mk hrev
                have HMN := Aside0.mk (show ∀ x ∈ m, x.1.size ≤ 1000000 from fun x hx => by
                  have := (fine_elem hfm x hx).1
                  unfold nameB at this
                  have := of_decide_eq_true (Bool.and_eq_true_iff.mp this).1
                  omega)
                have g5 : IntKind.i64.wrap ((us.length : Int) - 1) = (us.length : Int) - 1 := by simp [IntKind.wrap, IntKind.bits, IntKind.signed]; omega
                clear hr0 hc0 hrev hfm
                go_wp2_with (go_at_call 14; refine (fine_yes _ _ _ m HD.out HMN.out (by omega) HFM.out).mono ?_; rintro e w5 ⟨rfl, hb5⟩; have HB5 := Aside0.mk (HBR.out.trans (hb5.mono HBR.out.size)); have HD5 := Aside0.mk (HD.out.below hb5); clear hb5)
                have HO0 := Aside0.mk (OwnU.nil w5)
                go_loopw [13, 14] (fun v13 v14 w' => ∃ iv : Int, v14 = .int .i64 iv ∧ -1 ≤ iv ∧ iv < (us.length : Int) ∧ Aside0 (OwnU w5 w' v13 (us.reverse.take (us.length - 1 - iv).toNat))) (fun _ v14 _ => (intOf v14 + 1).toNat)
                case atStart => exact ⟨(us.length : Int) - 1, rfl, by omega, by omega, ⟨by rw [show ((us.length : Int) - 1 - ((us.length : Int) - 1)).toNat = 0 by omega]; exact HO0.out⟩⟩
                case round =>
                  clear HO0
                  obtain ⟨iv, rfl, hiv1, hiv2, HO⟩ := hrel
                  by_cases hpos : 0 ≤ iv
                  · obtain ⟨i, rfl⟩ : ∃ i : Nat, iv = (i : Int) := ⟨iv.toNat, by omega⟩
                    have hi : i < us.length := by omega
                    have g6 : IntKind.i64.wrap ((i : Int) - 1) = (i : Int) - 1 := by simp [IntKind.wrap, IntKind.bits, IntKind.signed]; omega
                    obtain ⟨b, rfl, hld⟩ := (HU.out.below (HB5.out.trans (HO.out.below.mono HB5.out.size))).whole i hi
                    have hgd := HU.out.good us[i] (List.getElem_mem hi)
                    have hrv : us.reverse.take (((us.length : Int) - 1 - ((i : Int) - 1)).toNat) = us.reverse.take (((us.length : Int) - 1 - (i : Int)).toNat) ++ [us[i]] := by
                      rw [show ((us.length : Int) - 1 - ((i : Int) - 1)).toNat = us.length - 1 - i + 1 by omega, show ((us.length : Int) - 1 - (i : Int)).toNat = us.length - 1 - i by omega, List.take_succ_eq_append_getElem (by rw [List.length_reverse]; omega), List.getElem_reverse]
                      simp only [show us.length - 1 - (us.length - 1 - i) = i by omega]
                    have HRV := Aside0.mk hrv
                    have holen : (us.reverse.take (((us.length : Int) - 1 - (i : Int)).toNat)).length ≤ 1000000 := by rw [List.length_take, List.length_reverse]; omega
                    obtain ⟨nm, hnm⟩ : ∃ x, us[i].1 = x := ⟨_, rfl⟩
                    obtain ⟨x, hxx⟩ : ∃ x, us[i].2.1 = x := ⟨_, rfl⟩
                    obtain ⟨z, hzz⟩ : ∃ x, us[i].2.2 = x := ⟨_, rfl⟩
                    have hx : us[i] = (nm, x, z) := by rw [← hnm, ← hxx, ← hzz]
                    rw [hx] at hld hgd HRV
                    obtain ⟨v6, w6, hap, hO6⟩ := HO.out.app holen nm x z hgd.1 hgd.2
                    rw [← HRV.out] at hO6
                    have HO6 := Aside0.mk hO6
                    have hbu := fun W => build_urow nm x z hgd.1 hgd.2 W
                    clear hrv hnm hxx hzz hx hgd hO6 HRV holen
                    go_wp2_with (at_builtin; refine Lib.wpList_append_run _ rfl _ _ _ _ rfl _ _ rfl rfl _ _ hap ?_)
                    go_roundw
                    case rel => exact ⟨(i : Int) - 1, rfl, by omega, by omega, HO6⟩
                    case measure => simp [intOf]
                  · obtain rfl : iv = -1 := by omega
                    have hO := HO.out
                    rw [show ((us.length : Int) - 1 - (-1)).toNat = us.length by omega, List.take_of_length_le (by rw [List.length_reverse]; exact Nat.le_refl _)] at hO
                    obtain ⟨Ab, cb, rfl, hrb⟩ := rdu_of_rw hO.row hO.good
                    have HRB := Aside0.mk hrb
                    have HBO := Aside0.mk (HB5.out.trans (hO.below.mono HB5.out.size))
                    have HDO := Aside0.mk (HD5.out.below hO.below)
                    have hrl : us.reverse.length ≤ 1000000 := by rw [List.length_reverse]; omega
                    have HUR := Aside0.mk (show ∀ x ∈ us.reverse, x.1.size ≤ 1000000 from fun x hx => HUN.out x (List.mem_reverse.mp hx))
                    obtain ⟨rs, hrs⟩ : ∃ rs, us.reverse = rs := ⟨_, rfl⟩
                    rw [hrs] at HRB hrl HUR HREV ⊢
                    clear hO hrb HO hpos hrs
                    go_wp2_with (first | (go_at_call 10; refine (update_yes _ _ _ _ _ _ rs true (HR.out.below HBO.out) HRB.out HLN.out HUR.out (by omega) hrl HFI.out).mono ?_; rintro e w7 ⟨v7, t7, rfl, hp7⟩; have hr7 := hp7.row; have hg7 := hp7.good; rw [HREV.out] at hr7 hg7; obtain ⟨A7, c7, hv7, hd7⟩ := RdL.of_rw hr7 hg7; subst hv7; have HD7 := Aside0.mk hd7; have HB7 := Aside0.mk (HBO.out.trans (hp7.below.mono HBO.out.size)); have HDM := Aside0.mk (HDO.out.below hp7.below); clear hp7 hr7 hg7 hd7) | (go_at_call 13; refine (same_yes _ _ _ _ _ m HDM.out HD7.out (by omega)).mono ?_; rintro e w8 ⟨rfl, hb8⟩; have HB8 := Aside0.mk (HB7.out.trans (hb8.mono HB7.out.size)); clear hb8) | (go_at_call 9; refine (knows_calls _).mono ?_; rintro e w9 ⟨rfl, hb9⟩; have HB9 := Aside0.mk (HB8.out.trans (hb9.mono HB8.out.size)); clear hb9))
                    go_ret
                    exact ⟨rfl, HB9.out⟩
              · obtain rfl : r = us.length := by rw [hr0, hcn]
                have d1 : ((us.length : Int) != 0) = true := by rw [bne, beq_eq_false_iff_ne.mpr (by omega : (us.length : Int) ≠ 0)]; rfl
                have d2 : decide (0 < us.length) = true := decide_eq_true hpos
                have d3 : decide ((0 : Int) < (us.length : Int)) = true := decide_eq_true (by omega)
                have d4 : (us.length != 0) = true := by rw [bne, beq_eq_false_iff_ne.mpr (by omega : us.length ≠ 0)]; rfl
                have d5 : (us.length == 0) = false := beq_eq_false_iff_ne.mpr (by omega)
                have d6 : ((us.length : Int) == 0) = false := beq_eq_false_iff_ne.mpr (by omega)
                clear hr0 hcn
                go_wp2_with (first | (go_at_call 14; refine (fine_yes _ _ _ m HD.out HLN.out (by omega) HFI.out).mono ?_; rintro e w5 ⟨rfl, hb5⟩; have HB5 := Aside0.mk (HBR.out.trans (hb5.mono HBR.out.size)); have HD5 := Aside0.mk (HD.out.below hb5); clear hb5) | (go_at_call 13; refine (same_yes _ _ _ _ _ m HD5.out (HR.out.below HB5.out) (by omega)).mono ?_; rintro e w6 ⟨rfl, hb6⟩; have HB6 := Aside0.mk (HB5.out.trans (hb6.mono HB5.out.size)); clear hb6) | (go_at_call 9; refine (knows_calls _).mono ?_; rintro e w9 ⟨rfl, hb9⟩; have HB9 := Aside0.mk (HB6.out.trans (hb9.mono HB6.out.size)); clear hb9))
                go_ret
                exact ⟨rfl, HB9.out⟩
        · have HFI := Aside0.mk hf
          clear hf
          go_wp2_with (first | (go_at_call 10; refine (update_no _ _ _ _ _ _ us true (HR.out.below HB3.out) HLN.out (by omega) HFI.out).mono ?_; rintro e w4 ⟨rfl, hb4⟩; have HB4 := Aside0.mk (HB3.out.trans (hb4.mono HB3.out.size)); clear hb4) | (go_at_call 9; refine (knows_calls _).mono ?_; rintro e w9 ⟨rfl, hb9⟩; have HB9 := Aside0.mk (HB4.out.trans (hb9.mono HB4.out.size)); clear hb9) | (go_at_call 14; refine (fine_no _ _ _ _ (HR.out.below HB9.out) HLN.out (by omega) HFI.out).mono ?_; rintro e w10 ⟨rfl, hb10⟩; have HB10 := Aside0.mk (HB9.out.trans (hb10.mono HB9.out.size)); clear hb10))
          go_ret
          exact ⟨rfl, HB10.out⟩
      · have c1 : decide ((64 : Int) < (l.length : Int) + (us.length : Int)) = true := decide_eq_true (by omega)
        go_wp2_with (go_at_call 9; refine (knows_calls _).mono ?_; rintro e w9 ⟨rfl, hb9⟩; have HB9 := Aside0.mk (HB3.out.trans (hb9.mono HB3.out.size)); clear hb9)
        go_ret
        exact ⟨rfl, HB9.out⟩
end Go.Proofs.Ytklbemgepeleoaa.Rf
