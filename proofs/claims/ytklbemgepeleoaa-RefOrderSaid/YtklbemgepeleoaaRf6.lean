/- Refs that may be: the document's Fine. -/
import Derived.Test.YtklbemgepeleoaaRf5
import Derived.Test.YtklbemgepeleoaaRo
import Derived.WalkLawsBesides
import Derived.Deep.QuietTactic
import Derived.BigQuiet
set_option linter.unusedVariables false
set_option linter.unusedSimpArgs false
namespace Go.Proofs.Ytklbemgepeleoaa.Rf
open Go.RowKit Go.Proofs.Ytklbemgepeleoaa.Lk Go.Proofs.YtklbemgepeleoaaW.PrintWords Go.Proofs.YtklbemgepeleoaaW.PrintLast Go.Proofs.YtklbemgepeleoaaW.PrintMore
attribute [local go_sem] max2_int min2_int max_two min_two max_three min_three max_four min_four
attribute [-simp] Try.isAgg37 Try.isAgg54 Try.isAgg39
attribute [-go_sem] Instr.loadAt
theorem loadAt9 (v : Value) : Instr.loadAt 9 v = (do loadVar 9 (← Instr.sureAddr v)) := rfl
theorem loadAt3 (v : Value) : Instr.loadAt 3 v = (do loadVar 3 (← Instr.sureAddr v)) := rfl
attribute [local go_sem] loadAt9 loadAt3
theorem RdL.id {w : World} {A : Option Addr} {c : Nat} {l : List RefE} (h : RdL w A c l) (k : Nat) (hk : k < l.length) :
    ∃ a, A = some a ∧ ∀ j v, (idc l[k].2)[j]? = some v → w.cell? ((⟨(a.add (k * 33)).block, (a.add (k * 33)).off + 1, none⟩ : Addr).add j) = some v := by
  obtain ⟨a, ha, hc⟩ := h.at k hk
  refine ⟨a, ha, fun j v hv => ?_⟩
  have := hc (j + 1) v hv
  rw [add_add_, add_field a (k * 33) (j + 1) (by omega)] at this
  rw [Addr.add_mid, show (a.add (k * 33)).off + 1 + j = (a.add (k * 33)).off + (j + 1) by omega]
  exact this
def fineE (l : List RefE) (k : Nat) : Prop := ∀ i, (h : i < l.length) → i < k → nameB l[i].1 = true ∧ l[i].2 ≠ id0 ∧ ∀ j, (hj : j + 1 = i) → ltB (l[j]'(by omega)).1 l[i].1 = true
def Fine (l : List RefE) : Prop := l.length ≤ 64 ∧ fineE l l.length
theorem eq_id0 (x : List Int) (hx : x.length = 32) (w : World) : (Op.equalIn 10000 37 (.agg (idc x).toArray) (.agg #[.int .u8 0, .int .u8 0, .int .u8 0, .int .u8 0, .int .u8 0, .int .u8 0, .int .u8 0, .int .u8 0, .int .u8 0, .int .u8 0, .int .u8 0, .int .u8 0, .int .u8 0, .int .u8 0, .int .u8 0, .int .u8 0, .int .u8 0, .int .u8 0, .int .u8 0, .int .u8 0, .int .u8 0, .int .u8 0, .int .u8 0, .int .u8 0, .int .u8 0, .int .u8 0, .int .u8 0, .int .u8 0, .int .u8 0, .int .u8 0, .int .u8 0, .int .u8 0])).run Try.prog w = .ok (decide (x = id0)) w :=
  eq_ids (P := Try.prog) w 9998 37 5 32 (by kernel_rfl) (by kernel_rfl) (fun w => Try.sizeOf5 w) x id0 hx (by simp)
theorem load_id {w : World} {a : Addr} {x : List Int} (hx : x.length = 32) (hc : ∀ j v, (idc x)[j]? = some v → w.cell? (a.add j) = some v) : (Instr.loadAt 37 (.pointer (some a))).run Try.prog w = .ok (.agg (idc x).toArray) w :=
  run_loadAt_any w a 37 (idc x) (.array 32 5) hc (by kernel_rfl) rfl (by rw [show (Try.prog.info? 37).map (·.size) = some 32 by kernel_rfl, idc_length, hx])
set_option maxHeartbeats 4000000 in
set_option maxRecDepth 100000 in
theorem docfine_calls (w : World) (A : Option Addr) (c : Nat) (l : List RefE) (h : RdL w A c l) (hn : ∀ x ∈ l, x.1.size ≤ 1000000) (hl : l.length ≤ 1000000) : Calls Try.prog 11 #[.slice A l.length c] w fun e w' => ∃ b, e = .returned (.bool b) ∧ (b = true ↔ Fine l) ∧ Below w.heap.size w w' := by
  have HR := Aside0.mk h
  have HN := Aside0.mk hn
  clear h hn
  by_cases h64 : l.length ≤ 64
  · have e0 : decide ((64 : Int) < (l.length : Int)) = false := decide_eq_false (by omega)
    go_enter Try.func11, Try.ntmps11
    go_wp2
    go_loopw [3] (fun v3 w' => ∃ k : Nat, v3 = .int .i64 (k : Int) ∧ k ≤ l.length ∧ Aside0 (fineE l k) ∧ Aside0 (Below w.heap.size w w')) (fun v3 _ => l.length - (intOf v3).toNat)
    case atStart => exact ⟨0, rfl, Nat.zero_le _, ⟨fun i _ h => by omega⟩, ⟨Below.refl _ _⟩⟩
    case round =>
      obtain ⟨k, rfl, hk, HF, HB⟩ := hrel
      by_cases hlt : k < l.length
      · have e1 : decide ((k : Int) < (l.length : Int)) = true := decide_eq_true (by omega)
        have e3 : (0 : Int) ≤ (k : Int) := by omega
        have e4 : (k : Int) < (l.length : Int) := by omega
        obtain ⟨a, rfl, y1⟩ := (HR.out.below HB.out).name k hlt
        have HNM := Aside0.mk (HN.out l[k] (List.getElem_mem hlt))
        have hx32 := (HR.out.good l[k] (List.getElem_mem hlt))
        obtain ⟨a', ea, hidc⟩ := (HR.out.below HB.out).id k hlt
        obtain rfl := Option.some.inj ea
        obtain ⟨nm, hnm⟩ : ∃ nm, l[k].1 = nm := ⟨_, rfl⟩
        obtain ⟨x, hx⟩ : ∃ x, l[k].2 = x := ⟨_, rfl⟩
        rw [hnm] at y1 HNM
        rw [hx] at hx32 hidc
        have HID := Aside0.mk hidc
        have HY := Aside0.mk y1
        clear hidc
        have hnext : nameB nm = true → x ≠ id0 → (∀ j, (hj : j + 1 = k) → ltB (l[j]'(by omega)).1 nm = true) → fineE l (k + 1) := fun g1 g2 g3 i hi hik => by
          by_cases e : i = k
          · subst e
            rw [hnm, hx]
            exact ⟨g1, g2, g3⟩
          · exact HF.out i hi (by omega)
        have hnot : (nameB nm = false ∨ x = id0 ∨ ∃ j, ∃ hj : j + 1 = k, ltB (l[j]'(by omega)).1 nm = false) → ¬ Fine l := fun g hf => by
          obtain ⟨q1, q2, q3⟩ := hf.2 k hlt hlt
          rw [hnm] at q1 q3
          rw [hx] at q2
          rcases g with g | g | ⟨j, hj, g⟩
          · rw [g] at q1; simp at q1
          · exact q2 g
          · rw [q3 j hj] at g; simp at g
        have HNEXT := Aside0.mk hnext
        have HNOT := Aside0.mk hnot
        have HNM2 := Aside0.mk hnm
        have HX2 := Aside0.mk hx
        clear hnext hnot hnm hx
        cases hb1 : nameB nm with
        | false =>
          have HB1 := Aside0.mk hb1
          go_wp2_with (go_at_call 22; refine (docname_calls nm HNM.out _).mono ?_; rw [HB1.out]; rintro e w5 ⟨rfl, ⟨m, rfl⟩⟩)
          go_ret
          exact ⟨false, rfl, ⟨by simp, fun hf => absurd hf (HNOT.out (.inl hb1))⟩, pw_below_drewN HB.out _⟩
        | true =>
          have HB1 := Aside0.mk hb1
          have HL := Aside0.mk (show ∀ m, (Instr.loadAt 37 (.pointer (some ⟨(a.add (k * 33)).block, (a.add (k * 33)).off + 1, none⟩))).run Try.prog (wr.drewN m) = .ok (.agg (idc x).toArray) (wr.drewN m) from fun m => load_id hx32 (fun j v hv => HID.out j v hv))
          have HE := Aside0.mk (show ∀ m, (Op.equalIn 10000 37 (.agg (idc x).toArray) (.agg #[.int .u8 0, .int .u8 0, .int .u8 0, .int .u8 0, .int .u8 0, .int .u8 0, .int .u8 0, .int .u8 0, .int .u8 0, .int .u8 0, .int .u8 0, .int .u8 0, .int .u8 0, .int .u8 0, .int .u8 0, .int .u8 0, .int .u8 0, .int .u8 0, .int .u8 0, .int .u8 0, .int .u8 0, .int .u8 0, .int .u8 0, .int .u8 0, .int .u8 0, .int .u8 0, .int .u8 0, .int .u8 0, .int .u8 0, .int .u8 0, .int .u8 0, .int .u8 0])).run Try.prog (wr.drewN m) = .ok (decide (x = id0)) (wr.drewN m) from fun m => eq_id0 x hx32 _)
          by_cases c2 : x = id0
          · have e5 : decide (x = id0) = true := decide_eq_true c2
            have C2 := Aside0.mk c2
            clear c2
            go_wp2_with (go_at_call 22; refine (docname_calls nm HNM.out _).mono ?_; rw [HB1.out]; rintro e w5 ⟨rfl, ⟨m, rfl⟩⟩; have hl5 := HL.out m; have he5 := HE.out m)
            go_ret
            exact ⟨false, rfl, ⟨by simp, fun hf => absurd hf (HNOT.out (.inr (.inl C2.out)))⟩, pw_below_drewN HB.out _⟩
          · have e5 : decide (x = id0) = false := decide_eq_false c2
            have C2 := Aside0.mk c2
            clear c2
            by_cases c0 : k = 0
            · have e6 : decide (0 < k) = false := decide_eq_false (by omega)
              have C0 := Aside0.mk c0
              clear c0
              go_wp2_with (go_at_call 22; refine (docname_calls nm HNM.out _).mono ?_; rw [HB1.out]; rintro e w5 ⟨rfl, ⟨m, rfl⟩⟩; have hl5 := HL.out m; have he5 := HE.out m)
              go_quiet (fail)
              go_wp2
              go_roundw
              case rel => exact ⟨k + 1, by go_num, by omega, ⟨HNEXT.out HB1.out C2.out (fun j hj => absurd hj (by have := C0.out; omega))⟩, ⟨pw_below_drewN HB.out _⟩⟩
              case measure => simp [intOf]; omega
            · have e6 : decide (0 < k) = true := decide_eq_true (by omega)
              have g1 : (0 : Int) ≤ (k : Int) - 1 := by omega
              have g2 : (k : Int) - 1 < (l.length : Int) := by omega
              have g3 : ((k : Int) - 1).toNat = k - 1 := by omega
              have g4 : (1 : Int) ≤ (k : Int) := by omega
              have g5 : IntKind.i64.wrap ((k : Int) - 1) = (k : Int) - 1 := by simp [IntKind.wrap, IntKind.bits, IntKind.signed]; omega
              obtain ⟨a', ea, y3⟩ := (HR.out.below HB.out).name (k - 1) (by omega)
              obtain rfl := Option.some.inj ea
              obtain ⟨pm, hpm⟩ : ∃ pm, l[k - 1].1 = pm := ⟨_, rfl⟩
              rw [hpm] at y3
              have HPM := Aside0.mk hpm
              have Y3 := Aside0.mk y3
              have C0 := Aside0.mk c0
              clear c0 hpm
              have hle : ltB pm nm = !(Op.bytesLess nm.toList pm.toList || nm.toList == pm.toList) := by rw [ge_iff, Bool.not_not]
              have HLE := Aside0.mk hle
              clear hle
              cases hb3 : Op.bytesLess nm.toList pm.toList with
              | true =>
                have HB3 := Aside0.mk hb3
                go_wp2_with (go_at_call 22; refine (docname_calls nm HNM.out _).mono ?_; rw [HB1.out]; rintro e w5 ⟨rfl, ⟨m, rfl⟩⟩; have hl5 := HL.out m; have he5 := HE.out m)
                go_quiet (fail)
                go_wp2
                go_ret
                exact ⟨false, rfl, ⟨by simp, fun hf => absurd hf (HNOT.out (.inr (.inr ⟨k - 1, by have := C0.out; omega, by rw [HPM.out, HLE.out, HB3.out]; rfl⟩)))⟩, pw_below_drewN (pw_below_drewN HB.out _) _⟩
              | false =>
                have HB3 := Aside0.mk hb3
                cases hb4 : (nm.toList == pm.toList) with
                | true =>
                  have HB4 := Aside0.mk hb4
                  go_wp2_with (go_at_call 22; refine (docname_calls nm HNM.out _).mono ?_; rw [HB1.out]; rintro e w5 ⟨rfl, ⟨m, rfl⟩⟩; have hl5 := HL.out m; have he5 := HE.out m)
                  go_quiet (fail)
                  go_wp2
                  go_ret
                  exact ⟨false, rfl, ⟨by simp, fun hf => absurd hf (HNOT.out (.inr (.inr ⟨k - 1, by have := C0.out; omega, by rw [HPM.out, HLE.out, HB3.out, HB4.out]; rfl⟩)))⟩, pw_below_drewN (pw_below_drewN HB.out _) _⟩
                | false =>
                  have HB4 := Aside0.mk hb4
                  go_wp2_with (go_at_call 22; refine (docname_calls nm HNM.out _).mono ?_; rw [HB1.out]; rintro e w5 ⟨rfl, ⟨m, rfl⟩⟩; have hl5 := HL.out m; have he5 := HE.out m)
                  go_quiet (fail)
                  go_wp2
                  go_roundw
                  case rel => exact ⟨k + 1, by go_num, by omega, ⟨HNEXT.out HB1.out C2.out (fun j hj => by
                    obtain rfl : j = k - 1 := by omega
                    rw [HPM.out, HLE.out, HB3.out, HB4.out]; rfl)⟩, ⟨pw_below_drewN HB.out _⟩⟩
                  case measure => simp [intOf]; omega
      · have e1 : decide ((k : Int) < (l.length : Int)) = false := decide_eq_false (by omega)
        go_wp2
        go_ret
        refine ⟨true, rfl, ⟨fun _ => ⟨h64, ?_⟩, fun _ => rfl⟩, HB.out⟩
        have : k = l.length := by omega
        rw [← this]
        exact HF.out
  · have e0 : decide ((64 : Int) < (l.length : Int)) = true := decide_eq_true (by omega)
    go_enter Try.func11, Try.ntmps11
    go_wp2
    go_ret
    exact ⟨false, rfl, ⟨by simp, fun hf => absurd hf.1 h64⟩, Below.refl _ _⟩
end Go.Proofs.Ytklbemgepeleoaa.Rf
