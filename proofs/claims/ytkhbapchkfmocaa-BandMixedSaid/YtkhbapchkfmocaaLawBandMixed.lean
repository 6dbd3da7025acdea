/- The row of BandMixed, out of the printed contract and the session's pure statement. -/
import Derived.Test.YtkhbapchkfmocaaRows
import Derived.Test.YtkhbapchkfmocaaPAx5
import Derived.Test.YtkhbapchkfmocaaPureBandMixed
import Derived.Test.YtkhbapchkfmocaaOpens
import Derived.WalkKit
import Derived.ProofKit
import Derived.OpenShut
import Derived.ShutString
import Derived.ChangeOld
import Derived.Below
import Derived.SizedLaws
set_option linter.unusedVariables false
set_option linter.unusedSimpArgs false
namespace Go.Proofs.Ytkhbapchkfmocaa.bandMixed
open Go.ChangeShapes Go.WideShapes Go.ChangeAt Go.RowKit Go.Proofs.Ytkhbapchkfmocaa.PA Go.Proofs.YtkhbapchkfmocaaW.PrintWords Go.Proofs.YtkhbapchkfmocaaW.PrintLast Go.Proofs.YtkhbapchkfmocaaW.PrintMore
open Go.ChangeMaps (open_string shut_string)
theorem own : ownKnob Try.prog.godebug = none := by kernel_rfl
theorem laidOut : laidOutB Try.prog = true := by kernel_rfl
theorem arg42 {H : Type} {enc : TypeId × Value → H} {w : World} {r : Reach} {b0 : Nat} {v : Value} {dd : DataW H} {ps : List MemPlace} (hv : Value.okWide Try.prog w r b0 42 v) (h : DataW.Trod enc Try.prog w 0 (fun _ => true) true 42 v dd ps) :
    ∃ (a0 : ByteArray) (a1 : ByteArray) (a2 : Int) (A3 : Option Addr) (c3 : Nat) (l3 : List (Bool)), v = .agg #[.string a0, .string a1, .int .i64 a2, .slice A3 l3.length c3] ∧ a0.size ≤ 9223372036854775807 ∧ a1.size ≤ 9223372036854775807 ∧ (Lit.int .i64 a2).wf = true ∧ (Kd.bool).C w A3 l3.length l3 ∧ l3.length ≤ c3 ∧ (∀ z ∈ l3, True) := by
  obtain ⟨cs, rfl, _⟩ := okWide_struct Try.underlying42 hv
  obtain ⟨fuel, hf⟩ := h
  obtain ⟨xs, n, rfl, _, hlen, hxl, hff⟩ := DataW.trod_struct Try.underlying42 hf
  have hl : cs.toList.length = 4 := hlen.trans (by kernel_rfl)
  obtain ⟨y0, h0⟩ := Opens.field_of hxl hff 0 _ rfl
  obtain ⟨a0, q0, w0⟩ := (Opens.Opens.string Try.underlying9) _ _ _ h0
  obtain ⟨y1, h1⟩ := Opens.field_of hxl hff 1 _ rfl
  obtain ⟨a1, q1, w1⟩ := (Opens.Opens.string Try.underlying9) _ _ _ h1
  obtain ⟨y2, h2⟩ := Opens.field_of hxl hff 2 _ rfl
  obtain ⟨a2, q2, w2⟩ := (Opens.Opens.int Try.underlying3) _ _ _ h2
  obtain ⟨y3, h3⟩ := Opens.field_of hxl hff 3 _ rfl
  obtain ⟨l3, ⟨A3, c3, q3, hc3, hC3⟩, w3⟩ := (Opens.Opens.slice (d := Kd.bool) Try.underlying40 (by kernel_rfl) (Opens.Opens.bool Try.underlying4)) _ _ _ h3
  have e : cs = #[.string a0, .string a1, .int .i64 a2, .slice A3 l3.length c3] := by
    obtain ⟨cl⟩ := cs
    match cl, hl with
    | [b0, b1, b2, b3], _ =>
      have z0 : [b0] = [.string a0] := q0
      have z1 : [b1] = [.string a1] := q1
      have z2 : [b2] = [.int .i64 a2] := q2
      have z3 : [b3] = [.slice A3 l3.length c3] := q3
      simp only [List.cons.injEq, and_true] at z0 z1 z2 z3
      rw [z0, z1, z2, z3]
  subst e
  exact ⟨a0, a1, a2, A3, c3, l3, rfl, w0, w1, w2, hC3, hc3, w3⟩
set_option maxRecDepth 100000 in
theorem lifted (os : Os) (started : os.Started) (H : Type) (enc : TypeId × Value → H) :
    ReturnsInHanded {} Try.checked os 5 .any (Rows.bandMixedSpec.pre6 enc Try.prog Try.f5 Rows.bandMixedRow.domain false) (Rows.bandMixedSpec.post enc Try.prog Try.f5 false true false false) := by
  refine returnsInHanded_of_change_sized (C := Try.checked) own started (by kernel_rfl) Try.func5
    (ChangeSpec.witness6 (enc := enc) (C := Try.checked) false ⟨#[], #[.agg #[.string ByteArray.empty, .string ByteArray.empty, .int .i64 0, .slice none 0 0]], []⟩ 8 (by kernel_rfl) (by kernel_rfl) (by kernel_rfl) (by kernel_rfl)) ?_
  intro W base args ds gs before hval0 hW hcnd hsz0 _
  have hsz : (DataW.weightsEach Try.prog (Try.f5.params.toList ++ Rows.bandMixedSpec.plain.varTypes Try.prog) (ds ++ gs)).all (· ≤ reachBytes) = true := hsz0
  have hval : ∀ (j : Nat) t v, Try.f5.params[j]? = some t → args[j]? = some v → Value.okWide Try.prog W .any base t v := hval0
  have hW' := hW
  obtain ⟨p, q, hA0, hV, rfl, hfz, hnd⟩ := hW
  have hA : DataW.TrodAll enc Try.prog W 0 (fun _ => true) true Try.f5.params.toList args.toList ds p := hA0
  rw [Try.params5] at hA hval hsz
  obtain ⟨v0, vs0, d0, ds0, p0, q0, hargs, rfl, rfl, h0, r0⟩ := trodAll_cons hA
  obtain ⟨rfl, rfl, rfl⟩ := trodAll_nil r0
  obtain rfl : args = #[v0] := by cases args; simp_all
  obtain ⟨rfl, rfl⟩ := trodVars_none hV
  have k0 := h0
  have lt0 : ∀ x ∈ p0, x.block < W.heap.size := by obtain ⟨m, hm⟩ := k0; exact DataW.trod_lt m _ _ _ hm
  obtain ⟨a0_0, a0_1, a0_2, A0_3, c0_3, l0_3, rfl, w0_0, w0_1, w0_2, hC0_3, hc0_3, w0_3⟩ := arg42 (hval 0 42 v0 rfl rfl) h0
  clear hA0 hval0 hsz0 hsz
  obtain ⟨k, hp⟩ := Pure.BandMixed a0_0 a0_1 a0_2 l0_3 w0_0 w0_1 w0_2 w0_3 hC0_3.2.1
  refine (PA.knapsacklaw08_BandMixed.calls k a0_0 a0_1 a0_2 A0_3 c0_3 l0_3 true W hC0_3 hc0_3 hp).mono fun e W' he => ?_
  obtain ⟨he, bel⟩ := he
  subst he
  exact ⟨_, rfl, _, _, _, [], _, [], hW', trodAll_mk1 (shut_bool Try.underlying4 _), (trodAll_cons_mk (Below.trod laidOut (by kernel_rfl) (of_decide_eq_true (by kernel_rfl)) k0 bel lt0) trodAll_mk0), rfl, bel.frame _, fun h => by cases h⟩
theorem over : Rows.bandMixedRow.holds Try.pinned (OpenSpec.ofChange Rows.bandMixedSpec) :=
  OpenClaim.holds_of_wide 5 Try.f5 rfl rfl rfl rfl rfl rfl rfl ⟨rfl, rfl, rfl, rfl, rfl⟩ rfl rfl rfl rfl rfl (by kernel_rfl) Try.func5 (by kernel_rfl)
    (of_decide_eq_true (by kernel_rfl)) (by unfold Func.isWrapper; first | (rw [if_pos (by decide +kernel)]; kernel_rfl) | (rw [if_neg (by decide +kernel)]; exact ⟨rfl, rfl⟩))
    (fun os started H enc _ => lifted os started H enc)
theorem proved : Rows.BandMixedSaid := over
#print axioms proved
end Go.Proofs.Ytkhbapchkfmocaa.bandMixed
namespace Go.Proofs.Ytkhbapchkfmocaa
/-- The row, under a short name, for the claim. -/
theorem bandMixed_holds : Rows.BandMixedSaid := bandMixed.proved
end Go.Proofs.Ytkhbapchkfmocaa
