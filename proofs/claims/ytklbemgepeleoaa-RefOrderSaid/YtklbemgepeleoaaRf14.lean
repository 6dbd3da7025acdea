/- Updates that are right. -/
import Derived.Test.YtklbemgepeleoaaRf13
set_option linter.unusedVariables false
set_option linter.unusedSimpArgs false
namespace Go.Proofs.Ytklbemgepeleoaa.Rf
open Go.RowKit Go.Proofs.Ytklbemgepeleoaa.Lk Go.Proofs.YtklbemgepeleoaaW.PrintWords Go.Proofs.YtklbemgepeleoaaW.PrintLast Go.Proofs.YtklbemgepeleoaaW.PrintMore
attribute [local go_sem] max2_int min2_int max_two min_two max_three min_three max_four min_four
attribute [-simp] Try.isAgg37 Try.isAgg54 Try.isAgg39
attribute [-go_sem] Instr.loadAt Instr.storeAt Instr.build Instr.buildSlice
attribute [local go_sem] loadAt9 loadAt3
abbrev zc39 : Array Value := #[.string ⟨#[]⟩, .int .u8 0, .int .u8 0, .int .u8 0, .int .u8 0, .int .u8 0, .int .u8 0, .int .u8 0, .int .u8 0, .int .u8 0, .int .u8 0, .int .u8 0, .int .u8 0, .int .u8 0, .int .u8 0, .int .u8 0, .int .u8 0, .int .u8 0, .int .u8 0, .int .u8 0, .int .u8 0, .int .u8 0, .int .u8 0, .int .u8 0, .int .u8 0, .int .u8 0, .int .u8 0, .int .u8 0, .int .u8 0, .int .u8 0, .int .u8 0, .int .u8 0, .int .u8 0, .int .u8 0, .int .u8 0, .int .u8 0, .int .u8 0, .int .u8 0, .int .u8 0, .int .u8 0, .int .u8 0, .int .u8 0, .int .u8 0, .int .u8 0, .int .u8 0, .int .u8 0, .int .u8 0, .int .u8 0, .int .u8 0, .int .u8 0, .int .u8 0, .int .u8 0, .int .u8 0, .int .u8 0, .int .u8 0, .int .u8 0, .int .u8 0, .int .u8 0, .int .u8 0, .int .u8 0, .int .u8 0, .int .u8 0, .int .u8 0, .int .u8 0, .int .u8 0]
set_option maxRecDepth 100000 in
theorem box_up (w : World) (nx : ByteArray) (x z : List Int) (hx : x.length = 32) (hz : z.length = 32) : ∃ w1, (Instr.storeAt 39 (.pointer (some ⟨w.heap.size, 0, none⟩)) (.agg (.string nx :: (idc x ++ idc z)).toArray)).run Try.prog (w.alloc (.cells zc39 39)) = .ok () w1 ∧
    Below w.heap.size w w1 ∧ w1.heap.size = w.heap.size + 1 ∧ w1.cell? ⟨w.heap.size, 0, none⟩ = some (.string nx) ∧
    (∀ w2, Below (w.heap.size + 1) w1 w2 → (Instr.loadAt 37 (.pointer (some ⟨w.heap.size, 1, none⟩))).run Try.prog w2 = .ok (.agg (idc x).toArray) w2) ∧
    (∀ w2, Below (w.heap.size + 1) w1 w2 → (Instr.loadAt 37 (.pointer (some ⟨w.heap.size, 33, none⟩))).run Try.prog w2 = .ok (.agg (idc z).toArray) w2) := by
  have hl := ucell_length (x := (nx, x, z)) ⟨hx, hz⟩
  have hlx : (idc x).length = 32 := by rw [idc_length, hx]
  refine ⟨w.alloc (.cells (ucell (nx, x, z)).toArray 39), run_storeAt_new w 39 zc39 (ucell (nx, x, z)).toArray (by rw [show (Try.prog.info? 39).map (·.size) = some 65 by kernel_rfl]; simp [hl]) (by simp [hl]) (all_oneCell_toArray (ucell_one _)), (Below.refl _ _).alloc (Nat.le_refl _) _, by simp, ?_, ?_, ?_⟩
  · rw [cell_of_row _ _ 0 _ _ (0, 0) (heap_alloc_last w _)]
    simp [ucell]
  · intro w2 hb
    refine load_id hx fun j v hv => ?_
    rw [Addr.add_mid, hb.cell (p := ⟨w.heap.size, 1 + j, none⟩) (by simp), cell_of_row _ _ (1 + j) _ _ (0, 0) (heap_alloc_last w _)]
    have hj := (List.getElem?_eq_some_iff.mp hv).1
    rw [Nat.add_comm]
    simp only [ucell, List.getElem?_toArray, List.getElem?_cons_succ]
    rw [List.getElem?_append_left hj]
    exact hv
  · intro w2 hb
    refine load_id hz fun j v hv => ?_
    rw [Addr.add_mid, hb.cell (p := ⟨w.heap.size, 33 + j, none⟩) (by simp), cell_of_row _ _ (33 + j) _ _ (0, 0) (heap_alloc_last w _)]
    rw [show 33 + j = 32 + j + 1 by omega]
    simp only [ucell, List.getElem?_toArray, List.getElem?_cons_succ]
    rw [List.getElem?_append_right (by omega), hlx, show 32 + j - 32 = j by omega]
    exact hv
theorem RdU.take {w : World} {A : Option Addr} {c : Nat} {l : List UpE} (h : RdU w A c l) (k : Nat) : RdU w A c (l.take k) := by
  refine ⟨Nat.le_trans (by rw [List.length_take]; omega) h.cap, fun x hx => h.good x (List.mem_of_mem_take hx), fun j u hu => h.cell j u ?_⟩
  have e : ucells (l.take k ++ l.drop k) = ucells (l.take k) ++ ucells (l.drop k) := List.flatMap_append
  rw [List.take_append_drop] at e
  have hj := (List.getElem?_eq_some_iff.mp hu).1
  rw [e, List.getElem?_append_left hj]
  exact hu
theorem info39 : (Try.prog.info? 39).map (fun i => (i.zero, i.size)) = some (some (.agg zc39), 65) := by kernel_rfl
theorem zero39 (W : World) : (zeroValue 39).run Try.prog W = .ok (.agg zc39) W := (zero_of_info info39).1 W
def rightE (pre : List UpE) (x : UpE) : Bool := nameB x.1 && !hasU pre x.1 && !(decide (x.2.1 = id0) && decide (x.2.2 = id0))
set_option maxHeartbeats 2000000 in
set_option maxRecDepth 100000 in
theorem right_calls (w : World) (A : Option Addr) (c : Nat) (l : List UpE) (h : RdU w A c l) (hl : l.length ≤ 1000000) (h1 : 1 ≤ l.length) (nm : ByteArray) (x z : List Int) (pre : List UpE) (hx : l[l.length - 1] = (nm, x, z)) (hpre : l.take (l.length - 1) = pre) (hnm : nm.size ≤ 1000000) :
    Calls Try.prog 36 #[.slice A l.length c] w fun e w' => e = .returned (.bool (rightE pre (nm, x, z))) ∧ Below w.heap.size w w' := by
  obtain ⟨a, rfl, hload⟩ := h.whole (l.length - 1) (by omega)
  have hgd := h.good l[l.length - 1] (List.getElem_mem _)
  rw [hx] at hload hgd
  obtain ⟨w1, hstore, hb1, hsz1, hnm1, hi1, hj1⟩ := box_up w nm x z hgd.1 hgd.2
  have hplen : pre.length = l.length - 1 := by rw [← hpre, List.length_take]; omega
  have HPRE1 := Aside0.mk ((hpre ▸ h.take (l.length - 1)).below hb1)
  have HPL := Aside0.mk (show pre.length ≤ 1000000 by omega)
  have HX := Aside0.mk hgd.1
  have HZ := Aside0.mk hgd.2
  have HB1 := Aside0.mk hb1
  have HSZ1 := Aside0.mk hsz1
  have HNM1 := Aside0.mk hnm1
  have HI1 := Aside0.mk hi1
  have HJ1 := Aside0.mk hj1
  have HNS := Aside0.mk hnm
  have g1 : (0 : Int) ≤ (l.length : Int) - 1 := by omega
  have g2 : (l.length : Int) - 1 < (l.length : Int) := by omega
  have g3 : ((l.length : Int) - 1).toNat = l.length - 1 := by omega
  have g4 : (1 : Int) ≤ (l.length : Int) := by omega
  have g5 : IntKind.i64.wrap ((l.length : Int) - 1) = (l.length : Int) - 1 := by simp [IntKind.wrap, IntKind.bits, IntKind.signed]; omega
  have hcap := h.cap
  have g6 : (l.length : Int) - 1 ≤ (c : Int) := by omega
  have hp2 : l.length - 1 = pre.length := hplen.symm
  clear h hgd hb1 hsz1 hnm1 hi1 hj1 hx hpre hnm
  obtain ⟨n, hn⟩ : ∃ n, l.length = n := ⟨_, rfl⟩
  rw [hn] at hload hp2 g1 g2 g3 g4 g5 g6 hl hcap h1 ⊢
  rw [hp2] at g3 hload
  have HN := Aside0.mk hn
  clear hn hplen hp2
  have hu : rightE pre (nm, x, z) = (nameB nm && !hasU pre nm && !(decide (x = id0) && decide (z = id0))) := rfl
  rw [hu]
  obtain ⟨b1, hb1⟩ : ∃ b, nameB nm = b := ⟨_, rfl⟩
  obtain ⟨b2, hb2⟩ : ∃ b, hasU pre nm = b := ⟨_, rfl⟩
  obtain ⟨b3, hb3⟩ : ∃ b, decide (x = id0) = b := ⟨_, rfl⟩
  obtain ⟨b4, hb4⟩ : ∃ b, decide (z = id0) = b := ⟨_, rfl⟩
  rw [hb1, hb2, hb3, hb4]
  have H1 := Aside0.mk hb1
  have H2 := Aside0.mk hb2
  have H3 := Aside0.mk hb3
  have H4 := Aside0.mk hb4
  clear hb1 hb2 hb3 hb4 hu
  have hz39 := fun W => zero39 W
  cases b1 with
  | false =>
    go_enter Try.func36, Try.ntmps36
    go_wp2_with (first | (go_at_call 44; refine (contains_calls _ _ _ pre HPRE1.out HPL.out _ nm HNM1.out).mono ?_; rw [H2.out]; rintro e w5 ⟨rfl, hb5⟩; have hnm5 := pw_cell_below hb5 HNM1.out; have HBX := Aside0.mk hb5; clear hb5) | (go_at_call 21; refine (name_below nm HNS.out _).mono ?_; rw [H1.out]; rintro e w6 ⟨rfl, hb6⟩; have HBY := Aside0.mk (HBX.out.trans (hb6.mono HBX.out.size)); have hi6 := HI1.out w6 (HSZ1.out ▸ HBY.out); clear hb6))
    go_ret
    exact ⟨rfl, HB1.out.trans (HBY.out.mono HB1.out.size)⟩
  | true =>
    cases b2 with
    | true =>
      go_enter Try.func36, Try.ntmps36
      go_wp2_with (first | (go_at_call 44; refine (contains_calls _ _ _ pre HPRE1.out HPL.out _ nm HNM1.out).mono ?_; rw [H2.out]; rintro e w5 ⟨rfl, hb5⟩; have hnm5 := pw_cell_below hb5 HNM1.out; have HBX := Aside0.mk hb5; clear hb5) | (go_at_call 21; refine (name_below nm HNS.out _).mono ?_; rw [H1.out]; rintro e w6 ⟨rfl, hb6⟩; have HBY := Aside0.mk (HBX.out.trans (hb6.mono HBX.out.size)); have hi6 := HI1.out w6 (HSZ1.out ▸ HBY.out); clear hb6))
      go_ret
      exact ⟨rfl, HB1.out.trans (HBY.out.mono HB1.out.size)⟩
    | false =>
      cases b3 with
      | false =>
        go_enter Try.func36, Try.ntmps36
        go_wp2_with (first | (go_at_call 44; refine (contains_calls _ _ _ pre HPRE1.out HPL.out _ nm HNM1.out).mono ?_; rw [H2.out]; rintro e w5 ⟨rfl, hb5⟩; have hnm5 := pw_cell_below hb5 HNM1.out; have HBX := Aside0.mk hb5; clear hb5) | (go_at_call 21; refine (name_below nm HNS.out _).mono ?_; rw [H1.out]; rintro e w6 ⟨rfl, hb6⟩; have HBY := Aside0.mk (HBX.out.trans (hb6.mono HBX.out.size)); have hi6 := HI1.out w6 (HSZ1.out ▸ HBY.out); clear hb6) | (go_at_call 27; refine (none_calls x HX.out _).mono ?_; rw [H3.out]; rintro e w7 ⟨rfl, hb7⟩; have HBZ := Aside0.mk (HBY.out.trans (hb7.mono HBY.out.size)); have hj7 := HJ1.out w7 (HSZ1.out ▸ HBZ.out); clear hb7))
        go_ret
        exact ⟨rfl, HB1.out.trans (HBZ.out.mono HB1.out.size)⟩
      | true =>
        cases b4 with
        | false =>
          go_enter Try.func36, Try.ntmps36
          go_wp2_with (first | (go_at_call 44; refine (contains_calls _ _ _ pre HPRE1.out HPL.out _ nm HNM1.out).mono ?_; rw [H2.out]; rintro e w5 ⟨rfl, hb5⟩; have hnm5 := pw_cell_below hb5 HNM1.out; have HBX := Aside0.mk hb5; clear hb5) | (go_at_call 21; refine (name_below nm HNS.out _).mono ?_; rw [H1.out]; rintro e w6 ⟨rfl, hb6⟩; have HBY := Aside0.mk (HBX.out.trans (hb6.mono HBX.out.size)); have hi6 := HI1.out w6 (HSZ1.out ▸ HBY.out); clear hb6) | (go_at_call 27; refine (none_calls x HX.out _).mono ?_; rw [H3.out]; rintro e w7 ⟨rfl, hb7⟩; have HBZ := Aside0.mk (HBY.out.trans (hb7.mono HBY.out.size)); have hj7 := HJ1.out w7 (HSZ1.out ▸ HBZ.out); clear hb7) | (go_at_call 27; refine (none_calls z HZ.out _).mono ?_; rw [H4.out]; rintro e w8 ⟨rfl, hb8⟩; have HBW := Aside0.mk (HBZ.out.trans (hb8.mono HBZ.out.size)); clear hb8))
          go_ret
          exact ⟨rfl, HB1.out.trans (HBW.out.mono HB1.out.size)⟩
        | true =>
          go_enter Try.func36, Try.ntmps36
          go_wp2_with (first | (go_at_call 44; refine (contains_calls _ _ _ pre HPRE1.out HPL.out _ nm HNM1.out).mono ?_; rw [H2.out]; rintro e w5 ⟨rfl, hb5⟩; have hnm5 := pw_cell_below hb5 HNM1.out; have HBX := Aside0.mk hb5; clear hb5) | (go_at_call 21; refine (name_below nm HNS.out _).mono ?_; rw [H1.out]; rintro e w6 ⟨rfl, hb6⟩; have HBY := Aside0.mk (HBX.out.trans (hb6.mono HBX.out.size)); have hi6 := HI1.out w6 (HSZ1.out ▸ HBY.out); clear hb6) | (go_at_call 27; refine (none_calls x HX.out _).mono ?_; rw [H3.out]; rintro e w7 ⟨rfl, hb7⟩; have HBZ := Aside0.mk (HBY.out.trans (hb7.mono HBY.out.size)); have hj7 := HJ1.out w7 (HSZ1.out ▸ HBZ.out); clear hb7) | (go_at_call 27; refine (none_calls z HZ.out _).mono ?_; rw [H4.out]; rintro e w8 ⟨rfl, hb8⟩; have HBW := Aside0.mk (HBZ.out.trans (hb8.mono HBZ.out.size)); clear hb8))
          go_ret
          exact ⟨rfl, HB1.out.trans (HBW.out.mono HB1.out.size)⟩
end Go.Proofs.Ytklbemgepeleoaa.Rf
