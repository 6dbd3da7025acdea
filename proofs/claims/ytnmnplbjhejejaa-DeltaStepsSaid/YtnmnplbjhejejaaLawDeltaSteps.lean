/- The row of DeltaSteps, out of the printed contract and the session's pure statement. -/
import Derived.Test.YtnmnplbjhejejaaRows
import Derived.Test.YtnmnplbjhejejaaPAx14
import Derived.Test.YtnmnplbjhejejaaPureDeltaSteps
import Derived.Test.YtnmnplbjhejejaaOpens
import Derived.WalkKit
import Derived.ProofKit
import Derived.OpenShut
import Derived.ShutString
import Derived.ChangeOld
import Derived.Below
import Derived.SizedLaws
set_option linter.unusedVariables false
set_option linter.unusedSimpArgs false
namespace Go.Proofs.Ytnmnplbjhejejaa.deltaSteps
open Go.ChangeShapes Go.WideShapes Go.ChangeAt Go.RowKit Go.Proofs.Ytnmnplbjhejejaa.PA Go.Proofs.YtnmnplbjhejejaaW.PrintWords Go.Proofs.YtnmnplbjhejejaaW.PrintLast Go.Proofs.YtnmnplbjhejejaaW.PrintMore
open Go.ChangeMaps (open_string shut_string)
theorem own : ownKnob Try.prog.godebug = none := by kernel_rfl
theorem laidOut : laidOutB Try.prog = true := by kernel_rfl
def good51 (x : S51) : Prop := ((Lit.int .i64 x.f0).wf = true) ∧ ((Lit.int .i64 x.f1).wf = true) ∧ (x.f2.size ≤ 9223372036854775807)
theorem opens51 {H : Type} {enc : TypeId × Value → H} {w : World} : Opens.Opens enc Try.prog w 51 (k51.K w) good51 := by
  intro fuel cs y h
  obtain ⟨xs, n, rfl, _, hlen, hxl, hf⟩ := DataW.trod_struct Try.underlying51 h
  have hl : cs.length = 3 := hlen.trans (by kernel_rfl)
  obtain ⟨y0, h0⟩ := Opens.field_of hxl hf 0 _ rfl
  obtain ⟨x0, k0_, g0⟩ := (Opens.Opens.int Try.underlying3) _ _ _ h0
  obtain ⟨y1, h1⟩ := Opens.field_of hxl hf 1 _ rfl
  obtain ⟨x1, k1_, g1⟩ := (Opens.Opens.int Try.underlying3) _ _ _ h1
  obtain ⟨y2, h2⟩ := Opens.field_of hxl hf 2 _ rfl
  obtain ⟨x2, k2_, g2⟩ := (Opens.Opens.string Try.underlying9) _ _ _ h2
  refine ⟨⟨x0, x1, x2⟩, ⟨_, _, ?_, k0_, ⟨_, _, rfl, k1_, k2_⟩⟩, ⟨g0, g1, g2⟩⟩
  show cs = (cs.drop 0).take (Try.prog.cellsOf 3) ++ ((cs.drop 1).take (Try.prog.cellsOf 3) ++ ((cs.drop 2).take (Try.prog.cellsOf 9)))
  rw [show Try.prog.cellsOf 3 = 1 by kernel_rfl, show Try.prog.cellsOf 9 = 1 by kernel_rfl]
  match cs, hl with
  | [a0, a1, a2], _ => rfl
theorem arg49 {H : Type} {enc : TypeId × Value → H} {w : World} {r : Reach} {b0 : Nat} {v : Value} {dd : DataW H} {ps : List MemPlace} (hv : Value.okWide Try.prog w r b0 49 v) (h : DataW.Trod enc Try.prog w 0 (fun _ => true) true 49 v dd ps) :
    ∃ a0 a1 a2 : Int, v = .agg #[.int .i64 a0, .int .i64 a1, .int .i64 a2] ∧ (Lit.int .i64 a0).wf = true ∧ (Lit.int .i64 a1).wf = true ∧ (Lit.int .i64 a2).wf = true := by
  have hv2 : ∃ cs, v = .agg cs ∧ cs.size = Try.prog.cellsOf 49 := by
    simp only [Value.okWide, Try.underlying49] at hv
    obtain ⟨cs, h1, h2, _⟩ := hv
    exact ⟨cs, h1, h2⟩
  obtain ⟨cs, rfl, _⟩ := hv2
  obtain ⟨fuel, hf⟩ := h
  obtain ⟨xs, n, _, _, hlen, hxl, hff⟩ := DataW.trod_array Try.underlying49 hf
  have hl : cs.toList.length = 3 := hlen.trans (by kernel_rfl)
  have h1 : Try.prog.cellsOf 3 = 1 := by kernel_rfl
  rw [h1] at hff
  obtain ⟨cl⟩ := cs
  match cl, hl with
  | [b0, b1, b2], _ =>
    have z0 : ∃ y, DataW.trod enc Try.prog w 0 (fun _ => true) true n 3 [b0] = some y := ⟨_, (hff 0 (by omega)).trans (List.getElem?_eq_getElem (by omega))⟩
    obtain ⟨y0, z0⟩ := z0
    obtain ⟨a0, e0, _, w0⟩ := DataW.trod_int Try.underlying3 z0
    simp only [List.cons.injEq, and_true] at e0
    subst e0
    have z1 : ∃ y, DataW.trod enc Try.prog w 0 (fun _ => true) true n 3 [b1] = some y := ⟨_, (hff 1 (by omega)).trans (List.getElem?_eq_getElem (by omega))⟩
    obtain ⟨y1, z1⟩ := z1
    obtain ⟨a1, e1, _, w1⟩ := DataW.trod_int Try.underlying3 z1
    simp only [List.cons.injEq, and_true] at e1
    subst e1
    have z2 : ∃ y, DataW.trod enc Try.prog w 0 (fun _ => true) true n 3 [b2] = some y := ⟨_, (hff 2 (by omega)).trans (List.getElem?_eq_getElem (by omega))⟩
    obtain ⟨y2, z2⟩ := z2
    obtain ⟨a2, e2, _, w2⟩ := DataW.trod_int Try.underlying3 z2
    simp only [List.cons.injEq, and_true] at e2
    subst e2
    exact ⟨a0, a1, a2, rfl, w0, w1, w2⟩
set_option maxRecDepth 100000 in
theorem lifted (os : Os) (started : os.Started) (H : Type) (enc : TypeId × Value → H) :
    ReturnsInHanded {} Try.checked os 8 .any (Rows.deltaStepsSpec.pre6 enc Try.prog Try.f8 Rows.deltaStepsRow.domain false) (Rows.deltaStepsSpec.post enc Try.prog Try.f8 false true false false) := by
  refine returnsInHanded_of_change_sized (C := Try.checked) own started (by kernel_rfl) Try.func8
    (ChangeSpec.witness6 (enc := enc) (C := Try.checked) false ⟨#[], #[.string ByteArray.empty, .slice none 0 0, .agg #[.int .i64 0, .int .i64 0, .int .i64 0]], []⟩ 8 (by kernel_rfl) (by kernel_rfl) (by kernel_rfl) (by kernel_rfl)) ?_
  intro W base args ds gs before hval0 hW hcnd hsz0 _
  have hsz : (DataW.weightsEach Try.prog (Try.f8.params.toList ++ Rows.deltaStepsSpec.plain.varTypes Try.prog) (ds ++ gs)).all (· ≤ reachBytes) = true := hsz0
  have hval : ∀ (j : Nat) t v, Try.f8.params[j]? = some t → args[j]? = some v → Value.okWide Try.prog W .any base t v := hval0
  have hW' := hW
  obtain ⟨p, q, hA0, hV, rfl, hfz, hnd⟩ := hW
  have hA : DataW.TrodAll enc Try.prog W 0 (fun _ => true) true Try.f8.params.toList args.toList ds p := hA0
  rw [Try.params8] at hA hval hsz
  obtain ⟨v0, vs0, d0, ds0, p0, q0, hargs, rfl, rfl, h0, r0⟩ := trodAll_cons hA
  obtain ⟨v1, vs1, d1, ds1, p1, q1, rfl, rfl, rfl, h1, r1⟩ := trodAll_cons r0
  obtain ⟨v2, vs2, d2, ds2, p2, q2, rfl, rfl, rfl, h2, r2⟩ := trodAll_cons r1
  obtain ⟨rfl, rfl, rfl⟩ := trodAll_nil r2
  obtain rfl : args = #[v0, v1, v2] := by cases args; simp_all
  obtain ⟨rfl, rfl⟩ := trodVars_none hV
  have k0 := h0
  have lt0 : ∀ x ∈ p0, x.block < W.heap.size := by obtain ⟨m, hm⟩ := k0; exact DataW.trod_lt m _ _ _ hm
  have ⟨a0, e0, f0, _, y0⟩ := open_string Try.underlying9 (hval 0 9 v0 rfl rfl) h0
  subst e0
  have w0 : a0.size ≤ 140737488351232 := by
    subst f0
    have z := sized_string hsz (j := 0) (t := 9) rfl rfl
    rw [Array.length_toList] at z
    exact z
  have k1 := h1
  have lt1 : ∀ x ∈ p1, x.block < W.heap.size := by obtain ⟨m, hm⟩ := k1; exact DataW.trod_lt m _ _ _ hm
  obtain ⟨A1, c1, l1, rfl, hC1, hc1, w1⟩ := Opens.top_slice (d := k51) Try.underlying48 (by kernel_rfl) opens51 (hval 1 48 v1 rfl rfl) h1
  have k2 := h2
  have lt2 : ∀ x ∈ p2, x.block < W.heap.size := by obtain ⟨m, hm⟩ := k2; exact DataW.trod_lt m _ _ _ hm
  obtain ⟨a2_0, a2_1, a2_2, rfl, w2_0, w2_1, w2_2⟩ := arg49 (hval 2 49 v2 rfl rfl) h2
  clear hA0 hval0 hsz0 hsz
  obtain ⟨k, hp⟩ := Pure.DeltaSteps a0 l1 a2_0 a2_1 a2_2 w0 w1 hC1.2.1 w2_0 w2_1 w2_2
  refine (PA.knapsacklaw06_DeltaSteps.calls k a0 A1 c1 l1 a2_0 a2_1 a2_2 true W hC1 hc1 hp).mono fun e W' he => ?_
  obtain ⟨he, bel⟩ := he
  subst he
  exact ⟨_, rfl, _, _, _, [], _, [], hW', trodAll_mk1 (shut_bool Try.underlying4 _), (trodAll_cons_mk (Below.trod laidOut (by kernel_rfl) (of_decide_eq_true (by kernel_rfl)) k0 bel lt0) (trodAll_cons_mk (Below.trod laidOut (by kernel_rfl) (of_decide_eq_true (by kernel_rfl)) k1 bel lt1) (trodAll_cons_mk (Below.trod laidOut (by kernel_rfl) (of_decide_eq_true (by kernel_rfl)) k2 bel lt2) trodAll_mk0))), rfl, bel.frame _, fun h => by cases h⟩
theorem over : Rows.deltaStepsRow.holds Try.pinned (OpenSpec.ofChange Rows.deltaStepsSpec) :=
  OpenClaim.holds_of_wide 8 Try.f8 rfl rfl rfl rfl rfl rfl rfl ⟨rfl, rfl, rfl, rfl, rfl⟩ rfl rfl rfl rfl rfl (by kernel_rfl) Try.func8 (by kernel_rfl)
    (of_decide_eq_true (by kernel_rfl)) (by unfold Func.isWrapper; first | (rw [if_pos (by decide +kernel)]; kernel_rfl) | (rw [if_neg (by decide +kernel)]; exact ⟨rfl, rfl⟩))
    (fun os started H enc _ => lifted os started H enc)
theorem proved : Rows.DeltaStepsSaid := over
#print axioms proved
end Go.Proofs.Ytnmnplbjhejejaa.deltaSteps
namespace Go.Proofs.Ytnmnplbjhejejaa
/-- The row, under a short name, for the claim. -/
theorem deltaSteps_holds : Rows.DeltaStepsSaid := deltaSteps.proved
end Go.Proofs.Ytnmnplbjhejejaa
