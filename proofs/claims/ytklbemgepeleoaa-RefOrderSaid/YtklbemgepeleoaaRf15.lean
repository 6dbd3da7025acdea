/- One update. -/
import Derived.Test.YtklbemgepeleoaaRf14
set_option linter.unusedVariables false
set_option linter.unusedSimpArgs false
namespace Go.Proofs.Ytklbemgepeleoaa.Rf
open Go.RowKit Go.Proofs.Ytklbemgepeleoaa.Lk Go.Proofs.YtklbemgepeleoaaW.PrintWords Go.Proofs.YtklbemgepeleoaaW.PrintLast Go.Proofs.YtklbemgepeleoaaW.PrintMore
attribute [local go_sem] max2_int min2_int max_two min_two max_three min_three max_four min_four
attribute [-simp] Try.isAgg37 Try.isAgg54 Try.isAgg39
attribute [-go_sem] Instr.loadAt Instr.storeAt Instr.build Instr.buildSlice run_equalIn_agg
attribute [local go_sem] loadAt9 loadAt3
/-- What a name stands for; no id: nothing. -/
def idE (l : List RefE) (nm : ByteArray) : List Int := ((l[posE l nm]?).map (·.2)).getD id0
def inE (l : List RefE) (nm : ByteArray) : Bool := decide (posE l nm < l.length)
theorem idE_none {l : List RefE} {nm : ByteArray} (h : ¬ posE l nm < l.length) : idE l nm = id0 := by unfold idE; rw [List.getElem?_eq_none (by omega)]; rfl
theorem idE_at {l : List RefE} {nm : ByteArray} (h : posE l nm < l.length) : idE l nm = l[posE l nm].2 := by unfold idE; rw [List.getElem?_eq_getElem h]; rfl
theorem idE_length {l : List RefE} (hg : Good32 l) (nm : ByteArray) : (idE l nm).length = 32 := by
  by_cases h : posE l nm < l.length
  · rw [idE_at h]; exact hg _ (List.getElem_mem h)
  · rw [idE_none h]; simp
theorem find_calls (w : World) (A : Option Addr) (c : Nat) (l : List RefE) (h : RdL w A c l) (hl : l.length ≤ 1000000) (nm : ByteArray) :
    Calls Try.prog 19 #[.slice A l.length c, .string nm] w fun e w' => e = .returned (.tuple #[idv (idE l nm), .bool (inE l nm)]) ∧ Below w.heap.size w w' := by
  by_cases hs : posE l nm < l.length
  · rw [idE_at hs, show inE l nm = true from decide_eq_true hs]
    exact find_at w A c l h hl nm _ hs rfl _ rfl
  · rw [idE_none hs, show inE l nm = false from decide_eq_false hs]
    exact find_none w A c l h hl nm hs
theorem docfind_calls (w : World) (A : Option Addr) (c : Nat) (l : List RefE) (h : RdL w A c l) (hl : l.length ≤ 1000000) (nm : ByteArray) :
    Calls Try.prog 20 #[.slice A l.length c, .string nm] w fun e w' => e = .returned (.tuple #[idv (idE l nm), .bool (inE l nm)]) ∧ Below w.heap.size w w' := by
  by_cases hs : posE l nm < l.length
  · rw [idE_at hs, show inE l nm = true from decide_eq_true hs]
    exact docfind_at w A c l h hl nm _ hs rfl _ rfl
  · rw [idE_none hs, show inE l nm = false from decide_eq_false hs]
    exact docfind_none w A c l h hl nm hs
theorem box_id (w : World) (x : List Int) (hx : x.length = 32) : ∃ w1, (Instr.storeAt 37 (.pointer (some ⟨w.heap.size, 0, none⟩)) (.agg (idc x).toArray)).run Try.prog (w.alloc (.cells zid 37)) = .ok () w1 ∧
    Below w.heap.size w w1 ∧ w1.heap.size = w.heap.size + 1 ∧
    (∀ w2, Below (w.heap.size + 1) w1 w2 → (Instr.loadAt 37 (.pointer (some ⟨w.heap.size, 0, none⟩))).run Try.prog w2 = .ok (.agg (idc x).toArray) w2) := by
  have hlx : (idc x).length = 32 := by rw [idc_length, hx]
  refine ⟨w.alloc (.cells (idc x).toArray 37), run_storeAt_new w 37 zid (idc x).toArray (by rw [show (Try.prog.info? 37).map (·.size) = some 32 by kernel_rfl]; simp [hlx]) (by simp [hlx]) (all_oneCell_toArray (idc_one _)), (Below.refl _ _).alloc (Nat.le_refl _) _, by simp, ?_⟩
  intro w2 hb
  refine load_id hx fun j v hv => ?_
  rw [Addr.add_mid, Nat.zero_add, hb.cell (p := ⟨w.heap.size, j, none⟩) (by simp), cell_of_row _ _ j _ _ (0, 0) (heap_alloc_last w _)]
  simpa using hv
/-- Why an update can't be done. -/
def errE (l : List RefE) (pre : List UpE) (x : UpE) : Int := if rightE pre x = true then if idE l x.1 = x.2.1 then if (putE l x.1 x.2.2).length ≤ 64 then 0 else 3 else 10 else 8
set_option maxHeartbeats 2000000 in
set_option maxRecDepth 100000 in
theorem one_calls (w : World) (A B : Option Addr) (c d : Nat) (l : List RefE) (us : List UpE) (h : RdL w A c l) (hu : RdU w B d us) (hl : l.length ≤ 1000000) (hul : us.length ≤ 1000000) (hu1 : 1 ≤ us.length)
    (nm : ByteArray) (x z : List Int) (pre : List UpE) (hx : us[us.length - 1] = (nm, x, z)) (hpre : us.take (us.length - 1) = pre) (hnm : nm.size ≤ 1000000) :
    Calls Try.prog 24 #[.slice A l.length c, .slice B us.length d] w fun e w' => ∃ v E, e = .returned (.tuple #[v, .int .i64 E]) ∧ Below w.heap.size w w' ∧ E = errE l pre (nm, x, z) ∧
      (E ≠ 0 → v = .slice A l.length c) ∧ (E = 0 → Rw w' 54 33 v (putE l nm z).length (rcells (putE l nm z))) := by
  obtain ⟨b, rfl, hload⟩ := hu.whole (us.length - 1) (by omega)
  have hgd := hu.good us[us.length - 1] (List.getElem_mem _)
  rw [hx] at hload hgd
  obtain ⟨w1, hstore, hb1, hsz1, hnm1, hi1, hj1⟩ := box_up w nm x z hgd.1 hgd.2
  have HU1 := Aside0.mk (hu.below hb1)
  have HL1 := Aside0.mk (h.below hb1)
  have HGD := Aside0.mk h.good
  have HLAST := Aside0.mk hx
  have HPRE := Aside0.mk hpre
  have HX := Aside0.mk hgd.1
  have HZ := Aside0.mk hgd.2
  have HB1 := Aside0.mk hb1
  have HSZ1 := Aside0.mk hsz1
  have HNM1 := Aside0.mk hnm1
  have HI1 := Aside0.mk hi1
  have HJ1 := Aside0.mk hj1
  have HNS := Aside0.mk hnm
  have g1 : (0 : Int) ≤ (us.length : Int) - 1 := by omega
  have g2 : (us.length : Int) - 1 < (us.length : Int) := by omega
  have g3 : ((us.length : Int) - 1).toNat = us.length - 1 := by omega
  have g4 : (1 : Int) ≤ (us.length : Int) := by omega
  have g5 : IntKind.i64.wrap ((us.length : Int) - 1) = (us.length : Int) - 1 := by simp [IntKind.wrap, IntKind.bits, IntKind.signed]; omega
  have hz39 := fun W => zero39 W
  have hE : errE l pre (nm, x, z) = if rightE pre (nm, x, z) = true then if idE l nm = x then if (putE l nm z).length ≤ 64 then 0 else 3 else 10 else 8 := rfl
  obtain ⟨y, hy⟩ : ∃ y, idE l nm = y := ⟨_, rfl⟩
  have HY32 := Aside0.mk (show y.length = 32 by rw [← hy]; exact idE_length h.good nm)
  have HY := Aside0.mk hy
  rw [hy] at hE
  clear h hu hgd hb1 hsz1 hnm1 hi1 hj1 hx hpre hnm hy
  cases hrt : rightE pre (nm, x, z) with
  | false =>
    rw [hrt, if_neg (by simp)] at hE
    have HE := Aside0.mk hE.symm
    have HRT := Aside0.mk hrt
    clear hE hrt
    go_enter Try.func24, Try.ntmps24
    go_wp2_with (first | (go_at_call 36; refine (right_calls _ _ _ us HU1.out hul hu1 nm x z pre HLAST.out HPRE.out HNS.out).mono ?_; rw [HRT.out]; rintro e w2 ⟨rfl, hb2⟩; have HB2 := Aside0.mk hb2; have hnm2 := pw_cell_below hb2 HNM1.out; clear hb2))
    go_ret2
    exact ⟨_, 8, rfl, HB1.out.trans (HB2.out.mono HB1.out.size), HE.out, fun _ => rfl, fun e => absurd e (by decide)⟩
  | true =>
    rw [hrt, if_pos rfl] at hE
    have HRT := Aside0.mk hrt
    clear hrt
    by_cases hyx : y = x
    · rw [if_pos hyx] at hE
      have HEQ := Aside0.mk (show ∀ W, (Op.equalIn 10000 37 (.agg (idc y).toArray) (.agg (idc x).toArray)).run Try.prog W = .ok true W from fun W => by
        have := eq_ids (P := Try.prog) W 9998 37 5 32 Try.underlying37 Try.underlying5 (fun w => Try.sizeOf5 w) y x HY32.out HX.out
        rw [decide_eq_true hyx] at this
        exact this)
      clear hyx
      by_cases h64 : (putE l nm z).length ≤ 64
      · rw [if_pos h64] at hE
        have HE := Aside0.mk hE.symm
        have c64 : decide ((64 : Int) < ((putE l nm z).length : Int)) = false := decide_eq_false (by omega)
        clear hE h64
        go_enter Try.func24, Try.ntmps24
        go_wp2_with (first | (go_at_call 36; refine (right_calls _ _ _ us HU1.out hul hu1 nm x z pre HLAST.out HPRE.out HNS.out).mono ?_; rw [HRT.out]; rintro e w2 ⟨rfl, hb2⟩; have HB2 := Aside0.mk hb2; have hnm2 := pw_cell_below hb2 HNM1.out; clear hb2) | (go_at_call 19; refine (find_calls _ _ _ l (HL1.out.below HB2.out) hl nm).mono ?_; rw [HY.out]; rintro e w3 ⟨rfl, hb3⟩; have HB3 := Aside0.mk (HB2.out.trans (hb3.mono HB2.out.size)); obtain ⟨w4, hst4, hb4, hsz4, hld4⟩ := box_id w3 y HY32.out; have HB4 := Aside0.mk (HB3.out.trans (hb4.mono HB3.out.size)); have hld44 := hld4 w4 (hsz4 ▸ Below.refl _ _); have hi4 := HI1.out w4 (HSZ1.out ▸ HB4.out); have hj4 := HJ1.out w4 (HSZ1.out ▸ HB4.out); have hnm4 := pw_cell_below HB4.out HNM1.out; have heq4 := HEQ.out w4; clear hb3 hb4 hsz4 hld4) | (go_at_call 37; refine (put_calls _ _ _ l (HL1.out.below HB4.out) hl nm z HZ.out).mono ?_; rintro e w5 ⟨v5, rfl, hR5, hb5⟩; obtain ⟨A5, c5, hv5, hrd5⟩ := RdL.of_rw hR5 (HGD.out.put nm HZ.out); subst hv5; have HR5 := Aside0.mk hR5; have HB5 := Aside0.mk (HB4.out.trans (hb5.mono HB4.out.size)); clear hR5 hb5 hrd5))
        go_ret2
        exact ⟨_, 0, rfl, HB1.out.trans (HB5.out.mono HB1.out.size), HE.out, fun e => absurd rfl e, fun _ => HR5.out⟩
      · rw [if_neg h64] at hE
        have HE := Aside0.mk hE.symm
        have c64 : decide ((64 : Int) < ((putE l nm z).length : Int)) = true := decide_eq_true (by omega)
        clear hE h64
        go_enter Try.func24, Try.ntmps24
        go_wp2_with (first | (go_at_call 36; refine (right_calls _ _ _ us HU1.out hul hu1 nm x z pre HLAST.out HPRE.out HNS.out).mono ?_; rw [HRT.out]; rintro e w2 ⟨rfl, hb2⟩; have HB2 := Aside0.mk hb2; have hnm2 := pw_cell_below hb2 HNM1.out; clear hb2) | (go_at_call 19; refine (find_calls _ _ _ l (HL1.out.below HB2.out) hl nm).mono ?_; rw [HY.out]; rintro e w3 ⟨rfl, hb3⟩; have HB3 := Aside0.mk (HB2.out.trans (hb3.mono HB2.out.size)); obtain ⟨w4, hst4, hb4, hsz4, hld4⟩ := box_id w3 y HY32.out; have HB4 := Aside0.mk (HB3.out.trans (hb4.mono HB3.out.size)); have hld44 := hld4 w4 (hsz4 ▸ Below.refl _ _); have hi4 := HI1.out w4 (HSZ1.out ▸ HB4.out); have hj4 := HJ1.out w4 (HSZ1.out ▸ HB4.out); have hnm4 := pw_cell_below HB4.out HNM1.out; have heq4 := HEQ.out w4; clear hb3 hb4 hsz4 hld4) | (go_at_call 37; refine (put_calls _ _ _ l (HL1.out.below HB4.out) hl nm z HZ.out).mono ?_; rintro e w5 ⟨v5, rfl, hR5, hb5⟩; obtain ⟨A5, c5, hv5, hrd5⟩ := RdL.of_rw hR5 (HGD.out.put nm HZ.out); subst hv5; have HR5 := Aside0.mk hR5; have HB5 := Aside0.mk (HB4.out.trans (hb5.mono HB4.out.size)); clear hR5 hb5 hrd5))
        go_ret2
        exact ⟨_, 3, rfl, HB1.out.trans (HB5.out.mono HB1.out.size), HE.out, fun _ => rfl, fun e => absurd e (by decide)⟩
    · rw [if_neg hyx] at hE
      have HE := Aside0.mk hE.symm
      have HEQ := Aside0.mk (show ∀ W, (Op.equalIn 10000 37 (.agg (idc y).toArray) (.agg (idc x).toArray)).run Try.prog W = .ok false W from fun W => by
        have := eq_ids (P := Try.prog) W 9998 37 5 32 Try.underlying37 Try.underlying5 (fun w => Try.sizeOf5 w) y x HY32.out HX.out
        rw [decide_eq_false hyx] at this
        exact this)
      clear hE hyx
      go_enter Try.func24, Try.ntmps24
      go_wp2_with (first | (go_at_call 36; refine (right_calls _ _ _ us HU1.out hul hu1 nm x z pre HLAST.out HPRE.out HNS.out).mono ?_; rw [HRT.out]; rintro e w2 ⟨rfl, hb2⟩; have HB2 := Aside0.mk hb2; have hnm2 := pw_cell_below hb2 HNM1.out; clear hb2) | (go_at_call 19; refine (find_calls _ _ _ l (HL1.out.below HB2.out) hl nm).mono ?_; rw [HY.out]; rintro e w3 ⟨rfl, hb3⟩; have HB3 := Aside0.mk (HB2.out.trans (hb3.mono HB2.out.size)); obtain ⟨w4, hst4, hb4, hsz4, hld4⟩ := box_id w3 y HY32.out; have HB4 := Aside0.mk (HB3.out.trans (hb4.mono HB3.out.size)); have hld44 := hld4 w4 (hsz4 ▸ Below.refl _ _); have hi4 := HI1.out w4 (HSZ1.out ▸ HB4.out); have hj4 := HJ1.out w4 (HSZ1.out ▸ HB4.out); have hnm4 := pw_cell_below HB4.out HNM1.out; have heq4 := HEQ.out w4; clear hb3 hb4 hsz4 hld4))
      go_ret2
      exact ⟨_, 10, rfl, HB1.out.trans (HB4.out.mono HB1.out.size), HE.out, fun _ => rfl, fun e => absurd e (by decide)⟩
end Go.Proofs.Ytklbemgepeleoaa.Rf
