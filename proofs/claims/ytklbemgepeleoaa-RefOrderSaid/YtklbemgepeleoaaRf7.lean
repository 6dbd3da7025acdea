/- Refs that may be: the program's Fine. -/
import Derived.Test.YtklbemgepeleoaaRf6
import Derived.Test.YtklbemgepeleoaaBq
set_option linter.unusedVariables false
set_option linter.unusedSimpArgs false
namespace Go.Proofs.Ytklbemgepeleoaa.Rf
open Go.RowKit Go.Proofs.Ytklbemgepeleoaa.Lk Go.Proofs.YtklbemgepeleoaaW.PrintWords Go.Proofs.YtklbemgepeleoaaW.PrintLast Go.Proofs.YtklbemgepeleoaaW.PrintMore
attribute [local go_sem] max2_int min2_int max_two min_two max_three min_three max_four min_four
attribute [-simp] Try.isAgg37 Try.isAgg54 Try.isAgg39
attribute [-go_sem] Instr.loadAt Instr.storeAt
attribute [local go_sem] loadAt9 loadAt3
abbrev zc54 : Array Value := #[.string ⟨#[]⟩, .int .u8 0, .int .u8 0, .int .u8 0, .int .u8 0, .int .u8 0, .int .u8 0, .int .u8 0, .int .u8 0, .int .u8 0, .int .u8 0, .int .u8 0, .int .u8 0, .int .u8 0, .int .u8 0, .int .u8 0, .int .u8 0, .int .u8 0, .int .u8 0, .int .u8 0, .int .u8 0, .int .u8 0, .int .u8 0, .int .u8 0, .int .u8 0, .int .u8 0, .int .u8 0, .int .u8 0, .int .u8 0, .int .u8 0, .int .u8 0, .int .u8 0, .int .u8 0]
set_option maxRecDepth 100000 in
theorem box_ref (w : World) (x : RefE) (hx : x.2.length = 32) : ∃ w1, (Instr.storeAt 54 (.pointer (some ⟨w.heap.size, 0, none⟩)) (.agg (rcell x).toArray)).run Try.prog (w.alloc (.cells zc54 54)) = .ok () w1 ∧
    Below w.heap.size w w1 ∧ w1.heap.size = w.heap.size + 1 ∧ w1.cell? ⟨w.heap.size, 0, none⟩ = some (.string x.1) ∧
    ∀ w2, Below (w.heap.size + 1) w1 w2 → (Instr.loadAt 37 (.pointer (some ⟨w.heap.size, 1, none⟩))).run Try.prog w2 = .ok (.agg (idc x.2).toArray) w2 := by
  have hl := rcell_length hx
  refine ⟨w.alloc (.cells (rcell x).toArray 54), run_storeAt_new w 54 zc54 (rcell x).toArray (by rw [show (Try.prog.info? 54).map (·.size) = some 33 by kernel_rfl]; simp [hl]) (by simp [hl]) (all_oneCell_toArray (rcell_one x)), (Below.refl _ _).alloc (Nat.le_refl _) _, by simp, ?_, ?_⟩
  · rw [cell_of_row _ _ 0 _ _ (0, 0) (heap_alloc_last w _)]
    simp [rcell]
  · intro w2 hb
    refine load_id hx fun j v hv => ?_
    rw [Addr.add_mid]
    rw [hb.cell (p := ⟨w.heap.size, 1 + j, none⟩) (by simp), cell_of_row _ _ (1 + j) _ _ (0, 0) (heap_alloc_last w _)]
    rw [Nat.add_comm]
    simpa [rcell] using hv
theorem name_below (s : ByteArray) (hs : s.size ≤ 1000000) (w : World) : Calls Try.prog 21 #[.string s] w fun e w' => e = .returned (.bool (nameB s)) ∧ Below w.heap.size w w' := (name_calls s hs w).mono fun e w' ⟨h, m, hm⟩ => ⟨h, by rw [hm]; exact pw_below_drewN (Below.refl _ _) m⟩
set_option maxHeartbeats 1000000 in
set_option maxRecDepth 100000 in
theorem fine_calls (w : World) (A : Option Addr) (c : Nat) (l : List RefE) (h : RdL w A c l) (hn : ∀ x ∈ l, x.1.size ≤ 1000000) (hl : l.length ≤ 1000000) : Calls Try.prog 14 #[.slice A l.length c] w fun e w' => ∃ b, e = .returned (.bool b) ∧ (b = true ↔ Fine l) ∧ Below w.heap.size w w' := by
  have HR := Aside0.mk h
  have HN := Aside0.mk hn
  clear h hn
  go_enter Try.func14, Try.ntmps14
  go_wp2
  go_loopw [7] (fun v7 w' => ∃ k : Nat, v7 = .int .i64 (k : Int) ∧ k ≤ l.length ∧ Aside0 (fineE l k) ∧ Aside0 (Below w.heap.size w w')) (fun v7 _ => l.length - (intOf v7).toNat)
  case atStart => exact ⟨0, rfl, Nat.zero_le _, ⟨fun i _ h => by omega⟩, ⟨Below.refl _ _⟩⟩
  case round =>
    obtain ⟨k, rfl, hk, HF, HB⟩ := hrel
    by_cases hlt : k < l.length
    · have e1 : decide ((k : Int) < (l.length : Int)) = true := decide_eq_true (by omega)
      have e3 : (0 : Int) ≤ (k : Int) := by omega
      have e4 : (k : Int) < (l.length : Int) := by omega
      obtain ⟨a, rfl, hc⟩ := (HR.out.below HB.out).at k hlt
      have hx32 := (HR.out.good l[k] (List.getElem_mem hlt))
      have hload : (Instr.loadAt 54 (.pointer (some (a.add (k * 33))))).run Try.prog wr = .ok (.agg (rcell l[k]).toArray) wr :=
        run_loadAt_any wr (a.add (k * 33)) 54 (rcell l[k]) _ hc Try.underlying54 rfl (by rw [show (Try.prog.info? 54).map (·.size) = some 33 by kernel_rfl, rcell_length hx32])
      obtain ⟨w1, hstore, hb1, hsz1, hnm1, hid1⟩ := box_ref wr l[k] hx32
      have HB1 := Aside0.mk (HB.out.trans (hb1.mono HB.out.size))
      have HS1 := Aside0.mk hsz1
      have HNM := Aside0.mk (HN.out l[k] (List.getElem_mem hlt))
      obtain ⟨nm, hnm⟩ : ∃ nm, l[k].1 = nm := ⟨_, rfl⟩
      obtain ⟨x, hx⟩ : ∃ x, l[k].2 = x := ⟨_, rfl⟩
      have hrc : rcell l[k] = .string nm :: idc x := by rw [← hnm, ← hx]; rfl
      rw [hrc] at hload hstore
      rw [hnm] at hnm1 HNM
      rw [hx] at hx32 hid1
      have HID1 := Aside0.mk hid1
      have HNM1 := Aside0.mk hnm1
      have hnext : nameB nm = true → x ≠ id0 → (∀ j, (hj : j + 1 = k) → ltB (l[j]'(by omega)).1 nm = true) → fineE l (k + 1) := fun g1 g2 g3 i hi hik => by
        by_cases e : i = k
        · subst e
          rw [hnm, hx]
          exact ⟨g1, g2, g3⟩
        · exact HF.out i hi (by omega)
      have hnot : (nameB nm = false ∨ x = id0 ∨ ∃ j, ∃ hj : j + 1 = k, ltB (l[j]'(by omega)).1 nm = false) → ¬ Fine l := fun g hf => by
        obtain ⟨q1, q2, q3⟩ := hf.2 k hlt hlt
        rw [hnm] at q1 q3
        rw [hx] at q2
        rcases g with g | g | ⟨j, hj, g⟩
        · rw [g] at q1; simp at q1
        · exact q2 g
        · rw [q3 j hj] at g; simp at g
      have HNEXT := Aside0.mk hnext
      have HNOT := Aside0.mk hnot
      have HL1 := Aside0.mk hload
      clear hb1 hsz1 hid1 hc hnext hnot hrc hnm hx
      cases hbn : nameB nm with
      | false =>
        have HBN := Aside0.mk hbn
        have hnm2 := fun n => Bq.bq_cell hnm1 n
        have HC1 := Aside0.mk (fun w => hbn ▸ name_calls nm HNM.out w)
        go_wp2
        refine Bq.wp_region_bq (by kernel_rfl) (by kernel_rfl) ?_
        repeat (go_big_quiet_step ((go_at_call 21; exact Bq.bq_call_drawn (HC1.out _))))
        refine wpQuiet_nil ?_
        rintro _ ⟨n, rfl⟩
        go_wp2
        go_ret
        exact ⟨false, rfl, ⟨by simp, fun hf => absurd hf (HNOT.out (.inl HBN.out))⟩, Bq.bq_out HB1.out HB1.out.size n⟩
      | true =>
        have HBN := Aside0.mk hbn
        have hnm2 := fun n => Bq.bq_cell hnm1 n
        have hid2 : ∀ n : Bq.BW w1, (Instr.loadAt 37 (.pointer (some ⟨wr.heap.size, 1, none⟩))).run Try.prog n.w = .ok (.agg (idc x).toArray) n.w := fun n => HID1.out n.w (HS1.out ▸ n.h)
        have HC1 := Aside0.mk (fun w => hbn ▸ name_calls nm HNM.out w)
        by_cases c2 : x = id0
        · have C2 := Aside0.mk c2
          have HC2 := Aside0.mk (fun w => decide_eq_true c2 ▸ none_calls x hx32 w)
          clear c2
          go_wp2
          refine Bq.wp_region_bq (by kernel_rfl) (by kernel_rfl) ?_
          repeat (go_big_quiet_step ((first | (go_at_call 21; exact Bq.bq_call_drawn (HC1.out _)) | (go_at_call 27; exact Bq.bq_call (HC2.out _)))))
          refine wpQuiet_nil ?_
          rintro _ ⟨n, rfl⟩
          go_wp2
          go_ret
          exact ⟨false, rfl, ⟨by simp, fun hf => absurd hf (HNOT.out (.inr (.inl C2.out)))⟩, Bq.bq_out HB1.out HB1.out.size n⟩
        · have C2 := Aside0.mk c2
          have HC2 := Aside0.mk (fun w => decide_eq_false c2 ▸ none_calls x hx32 w)
          clear c2
          by_cases c0 : k = 0
          · have e6 : decide (0 < k) = false := decide_eq_false (by omega)
            have C0 := Aside0.mk c0
            clear c0
            go_wp2
            refine Bq.wp_region_bq (by kernel_rfl) (by kernel_rfl) ?_
            repeat (go_big_quiet_step ((first | (go_at_call 21; exact Bq.bq_call_drawn (HC1.out _)) | (go_at_call 27; exact Bq.bq_call (HC2.out _)))))
            refine wpQuiet_nil ?_
            rintro _ ⟨n, rfl⟩
            go_wp2
            go_roundw
            case rel => exact ⟨k + 1, by go_num, by omega, ⟨HNEXT.out HBN.out C2.out (fun j hj => absurd hj (by have := C0.out; omega))⟩, ⟨Bq.bq_out HB1.out HB1.out.size n⟩⟩
            case measure => simp [intOf]; omega
          · have e6 : decide (0 < k) = true := decide_eq_true (by omega)
            have g1 : (0 : Int) ≤ (k : Int) - 1 := by omega
            have g2 : (k : Int) - 1 < (l.length : Int) := by omega
            have g3 : ((k : Int) - 1).toNat = k - 1 := by omega
            have g4 : (1 : Int) ≤ (k : Int) := by omega
            have g5 : IntKind.i64.wrap ((k : Int) - 1) = (k : Int) - 1 := by simp [IntKind.wrap, IntKind.bits, IntKind.signed]; omega
            obtain ⟨a', ea, y3⟩ := (HR.out.below HB1.out).name (k - 1) (by omega)
            obtain rfl := Option.some.inj ea
            obtain ⟨pm, hpm⟩ : ∃ pm, l[k - 1].1 = pm := ⟨_, rfl⟩
            rw [hpm] at y3
            have HPM := Aside0.mk hpm
            have y4 := fun n => Bq.bq_cell y3 n
            have C0 := Aside0.mk c0
            clear c0 hpm
            cases hb3 : Op.bytesLess pm.toList nm.toList with
            | true =>
              have HB3 := Aside0.mk (show ltB pm nm = true from hb3)
              go_wp2
              refine Bq.wp_region_bq (by kernel_rfl) (by kernel_rfl) ?_
              repeat (go_big_quiet_step ((first | (go_at_call 21; exact Bq.bq_call_drawn (HC1.out _)) | (go_at_call 27; exact Bq.bq_call (HC2.out _)))))
              refine wpQuiet_nil ?_
              rintro _ ⟨n, rfl⟩
              go_wp2
              go_roundw
              case rel => exact ⟨k + 1, by go_num, by omega, ⟨HNEXT.out HBN.out C2.out (fun j hj => by
                obtain rfl : j = k - 1 := by omega
                rw [HPM.out, HB3.out])⟩, ⟨Bq.bq_out HB1.out HB1.out.size n⟩⟩
              case measure => simp [intOf]; omega
            | false =>
              have HB3 := Aside0.mk (show ltB pm nm = false from hb3)
              go_wp2
              refine Bq.wp_region_bq (by kernel_rfl) (by kernel_rfl) ?_
              repeat (go_big_quiet_step ((first | (go_at_call 21; exact Bq.bq_call_drawn (HC1.out _)) | (go_at_call 27; exact Bq.bq_call (HC2.out _)))))
              refine wpQuiet_nil ?_
              rintro _ ⟨n, rfl⟩
              go_wp2
              go_ret
              exact ⟨false, rfl, ⟨by simp, fun hf => absurd hf (HNOT.out (.inr (.inr ⟨k - 1, by have := C0.out; omega, by rw [HPM.out, HB3.out]⟩)))⟩, Bq.bq_out HB1.out HB1.out.size n⟩
    · have e1 : decide ((k : Int) < (l.length : Int)) = false := decide_eq_false (by omega)
      have HK := Aside0.mk (show k = l.length by omega)
      by_cases h64 : l.length ≤ 64
      · have e2 : decide ((l.length : Int) ≤ 64) = true := decide_eq_true (by omega)
        go_wp2
        go_ret
        exact ⟨true, rfl, ⟨fun _ => ⟨h64, HK.out ▸ HF.out⟩, fun _ => rfl⟩, HB.out⟩
      · have e2 : decide ((l.length : Int) ≤ 64) = false := decide_eq_false (by omega)
        go_wp2
        go_ret
        exact ⟨false, rfl, ⟨by simp, fun hf => absurd hf.1 h64⟩, HB.out⟩
end Go.Proofs.Ytklbemgepeleoaa.Rf
