/- The row of DiskApart, out of the printed contract and the session's pure statement. -/
import Derived.Test.YtaibcfghokhghaaRows
import Derived.Test.YtaibcfghokhghaaDkd
import Derived.Test.YtaibcfghokhghaaPureDiskApart
import Derived.Test.YtaibcfghokhghaaOpens
import Derived.WalkKit
import Derived.ProofKit
import Derived.OpenShut
import Derived.ShutString
import Derived.ChangeOld
import Derived.Below
import Derived.SizedLaws
set_option linter.unusedVariables false
set_option linter.unusedSimpArgs false
namespace Go.Proofs.Ytaibcfghokhghaa.diskApart
open Go.ChangeShapes Go.WideShapes Go.ChangeAt Go.RowKit Go.Proofs.Ytaibcfghokhghaa.PA Go.Proofs.YtaibcfghokhghaaW.PrintWords Go.Proofs.YtaibcfghokhghaaW.PrintLast Go.Proofs.YtaibcfghokhghaaW.PrintMore
open Go.ChangeMaps (open_string shut_string)
theorem own : ownKnob Try.prog.godebug = none := by kernel_rfl
theorem laidOut : laidOutB Try.prog = true := by kernel_rfl
def good33 (x : S33) : Prop := ((Lit.int .u8 x.f0).wf = true) ∧ (x.f1.size ≤ 9223372036854775807) ∧ (x.f2.size ≤ 9223372036854775807) ∧ ((Lit.int .i64 x.f3).wf = true) ∧ ((Lit.int .i64 x.f4).wf = true)
theorem opens33 {H : Type} {enc : TypeId × Value → H} {w : World} : Opens.Opens enc Try.prog w 33 (k33.K w) good33 := by
  intro fuel cs y h
  obtain ⟨xs, n, rfl, _, hlen, hxl, hf⟩ := DataW.trod_struct Try.underlying33 h
  have hl : cs.length = 5 := hlen.trans (by kernel_rfl)
  obtain ⟨y0, h0⟩ := Opens.field_of hxl hf 0 _ rfl
  obtain ⟨x0, k0_, g0⟩ := (Opens.Opens.int Try.underlying5) _ _ _ h0
  obtain ⟨y1, h1⟩ := Opens.field_of hxl hf 1 _ rfl
  obtain ⟨x1, k1_, g1⟩ := (Opens.Opens.string Try.underlying9) _ _ _ h1
  obtain ⟨y2, h2⟩ := Opens.field_of hxl hf 2 _ rfl
  obtain ⟨x2, k2_, g2⟩ := (Opens.Opens.string Try.underlying9) _ _ _ h2
  obtain ⟨y3, h3⟩ := Opens.field_of hxl hf 3 _ rfl
  obtain ⟨x3, k3_, g3⟩ := (Opens.Opens.int Try.underlying3) _ _ _ h3
  obtain ⟨y4, h4⟩ := Opens.field_of hxl hf 4 _ rfl
  obtain ⟨x4, k4_, g4⟩ := (Opens.Opens.int Try.underlying3) _ _ _ h4
  refine ⟨⟨x0, x1, x2, x3, x4⟩, ⟨_, _, ?_, k0_, ⟨_, _, rfl, k1_, ⟨_, _, rfl, k2_, ⟨_, _, rfl, k3_, k4_⟩⟩⟩⟩, ⟨g0, g1, g2, g3, g4⟩⟩
  show cs = (cs.drop 0).take (Try.prog.cellsOf 5) ++ ((cs.drop 1).take (Try.prog.cellsOf 9) ++ ((cs.drop 2).take (Try.prog.cellsOf 9) ++ ((cs.drop 3).take (Try.prog.cellsOf 3) ++ ((cs.drop 4).take (Try.prog.cellsOf 3)))))
  rw [show Try.prog.cellsOf 3 = 1 by kernel_rfl, show Try.prog.cellsOf 5 = 1 by kernel_rfl, show Try.prog.cellsOf 9 = 1 by kernel_rfl]
  match cs, hl with
  | [a0, a1, a2, a3, a4], _ => rfl
theorem arg33 {H : Type} {enc : TypeId × Value → H} {w : World} {r : Reach} {b0 : Nat} {v : Value} {dd : DataW H} {ps : List MemPlace} (hv : Value.okWide Try.prog w r b0 33 v) (h : DataW.Trod enc Try.prog w 0 (fun _ => true) true 33 v dd ps) :
    ∃ (a0 : Int) (a1 : ByteArray) (a2 : ByteArray) (a3 : Int) (a4 : Int), v = .agg #[.int .u8 a0, .string a1, .string a2, .int .i64 a3, .int .i64 a4] ∧ (Lit.int .u8 a0).wf = true ∧ a1.size ≤ 9223372036854775807 ∧ a2.size ≤ 9223372036854775807 ∧ (Lit.int .i64 a3).wf = true ∧ (Lit.int .i64 a4).wf = true := by
  obtain ⟨cs, rfl, _⟩ := okWide_struct Try.underlying33 hv
  obtain ⟨fuel, hf⟩ := h
  obtain ⟨xs, n, rfl, _, hlen, hxl, hff⟩ := DataW.trod_struct Try.underlying33 hf
  have hl : cs.toList.length = 5 := hlen.trans (by kernel_rfl)
  obtain ⟨y0, h0⟩ := Opens.field_of hxl hff 0 _ rfl
  obtain ⟨a0, q0, w0⟩ := (Opens.Opens.int Try.underlying5) _ _ _ h0
  obtain ⟨y1, h1⟩ := Opens.field_of hxl hff 1 _ rfl
  obtain ⟨a1, q1, w1⟩ := (Opens.Opens.string Try.underlying9) _ _ _ h1
  obtain ⟨y2, h2⟩ := Opens.field_of hxl hff 2 _ rfl
  obtain ⟨a2, q2, w2⟩ := (Opens.Opens.string Try.underlying9) _ _ _ h2
  obtain ⟨y3, h3⟩ := Opens.field_of hxl hff 3 _ rfl
  obtain ⟨a3, q3, w3⟩ := (Opens.Opens.int Try.underlying3) _ _ _ h3
  obtain ⟨y4, h4⟩ := Opens.field_of hxl hff 4 _ rfl
  obtain ⟨a4, q4, w4⟩ := (Opens.Opens.int Try.underlying3) _ _ _ h4
  have e : cs = #[.int .u8 a0, .string a1, .string a2, .int .i64 a3, .int .i64 a4] := by
    obtain ⟨cl⟩ := cs
    match cl, hl with
    | [b0, b1, b2, b3, b4], _ =>
      have z0 : [b0] = [.int .u8 a0] := q0
      have z1 : [b1] = [.string a1] := q1
      have z2 : [b2] = [.string a2] := q2
      have z3 : [b3] = [.int .i64 a3] := q3
      have z4 : [b4] = [.int .i64 a4] := q4
      simp only [List.cons.injEq, and_true] at z0 z1 z2 z3 z4
      rw [z0, z1, z2, z3, z4]
  subst e
  exact ⟨a0, a1, a2, a3, a4, rfl, w0, w1, w2, w3, w4⟩
set_option maxRecDepth 100000 in
theorem lifted (os : Os) (started : os.Started) (H : Type) (enc : TypeId × Value → H) :
    ReturnsInHanded {} Try.checked os 4 .any (Rows.diskApartSpec.pre6 enc Try.prog Try.f4 Rows.diskApartRow.domain false) (Rows.diskApartSpec.post enc Try.prog Try.f4 false true false false) := by
  refine returnsInHanded_of_change_sized (C := Try.checked) own started (by kernel_rfl) Try.func4
    (ChangeSpec.witness6 (enc := enc) (C := Try.checked) false ⟨#[], #[.slice none 0 0, .slice none 0 0, .agg #[.int .u8 0, .string ByteArray.empty, .string ByteArray.empty, .int .i64 0, .int .i64 0]], []⟩ 8 (by kernel_rfl) (by kernel_rfl) (by kernel_rfl) (by kernel_rfl)) ?_
  intro W base args ds gs before hval0 hW hcnd hsz0 _
  have hsz : (DataW.weightsEach Try.prog (Try.f4.params.toList ++ Rows.diskApartSpec.plain.varTypes Try.prog) (ds ++ gs)).all (· ≤ reachBytes) = true := hsz0
  have hval : ∀ (j : Nat) t v, Try.f4.params[j]? = some t → args[j]? = some v → Value.okWide Try.prog W .any base t v := hval0
  have hW' := hW
  obtain ⟨p, q, hA0, hV, rfl, hfz, hnd⟩ := hW
  have hA : DataW.TrodAll enc Try.prog W 0 (fun _ => true) true Try.f4.params.toList args.toList ds p := hA0
  rw [Try.params4] at hA hval hsz
  obtain ⟨v0, vs0, d0, ds0, p0, q0, hargs, rfl, rfl, h0, r0⟩ := trodAll_cons hA
  obtain ⟨v1, vs1, d1, ds1, p1, q1, rfl, rfl, rfl, h1, r1⟩ := trodAll_cons r0
  obtain ⟨v2, vs2, d2, ds2, p2, q2, rfl, rfl, rfl, h2, r2⟩ := trodAll_cons r1
  obtain ⟨rfl, rfl, rfl⟩ := trodAll_nil r2
  obtain rfl : args = #[v0, v1, v2] := by cases args; simp_all
  obtain ⟨rfl, rfl⟩ := trodVars_none hV
  have k0 := h0
  have lt0 : ∀ x ∈ p0, x.block < W.heap.size := by obtain ⟨m, hm⟩ := k0; exact DataW.trod_lt m _ _ _ hm
  obtain ⟨A0, c0, l0, rfl, hC0, hc0, w0⟩ := Opens.top_slice (d := k33) Try.underlying22 (by kernel_rfl) opens33 (hval 0 22 v0 rfl rfl) h0
  have k1 := h1
  have lt1 : ∀ x ∈ p1, x.block < W.heap.size := by obtain ⟨m, hm⟩ := k1; exact DataW.trod_lt m _ _ _ hm
  obtain ⟨A1, c1, l1, rfl, hC1, hc1, w1⟩ := Opens.top_slice (d := k33) Try.underlying22 (by kernel_rfl) opens33 (hval 1 22 v1 rfl rfl) h1
  have k2 := h2
  have lt2 : ∀ x ∈ p2, x.block < W.heap.size := by obtain ⟨m, hm⟩ := k2; exact DataW.trod_lt m _ _ _ hm
  obtain ⟨a2_0, a2_1, a2_2, a2_3, a2_4, rfl, w2_0, w2_1, w2_2, w2_3, w2_4⟩ := arg33 (hval 2 33 v2 rfl rfl) h2
  clear hA0 hval0 hsz0 hsz
  obtain ⟨k, hp⟩ := Pure.DiskApart l0 l1 a2_0 a2_1 a2_2 a2_3 a2_4 w0 hC0.2.1 w1 hC1.2.1 w2_0 w2_1 w2_2 w2_3 w2_4
  refine (PA.knapsacklaw21_DiskApart.calls k A0 c0 l0 A1 c1 l1 a2_0 a2_1 a2_2 a2_3 a2_4 true W hC0 hc0 hC1 hc1 hp).mono fun e W' he => ?_
  obtain ⟨he, bel⟩ := he
  subst he
  exact ⟨_, rfl, _, _, _, [], _, [], hW', trodAll_mk1 (shut_bool Try.underlying4 _), (trodAll_cons_mk (Below.trod laidOut (by kernel_rfl) (of_decide_eq_true (by kernel_rfl)) k0 bel lt0) (trodAll_cons_mk (Below.trod laidOut (by kernel_rfl) (of_decide_eq_true (by kernel_rfl)) k1 bel lt1) (trodAll_cons_mk (Below.trod laidOut (by kernel_rfl) (of_decide_eq_true (by kernel_rfl)) k2 bel lt2) trodAll_mk0))), rfl, bel.frame _, fun h => by cases h⟩
theorem over : Rows.diskApartRow.holds Try.pinned (OpenSpec.ofChange Rows.diskApartSpec) :=
  OpenClaim.holds_of_wide 4 Try.f4 rfl rfl rfl rfl rfl rfl rfl ⟨rfl, rfl, rfl, rfl, rfl⟩ rfl rfl rfl rfl rfl (by kernel_rfl) Try.func4 (by kernel_rfl)
    (of_decide_eq_true (by kernel_rfl)) (by unfold Func.isWrapper; first | (rw [if_pos (by decide +kernel)]; kernel_rfl) | (rw [if_neg (by decide +kernel)]; exact ⟨rfl, rfl⟩))
    (fun os started H enc _ => lifted os started H enc)
theorem proved : Rows.DiskApartSaid := over
#print axioms proved
end Go.Proofs.Ytaibcfghokhghaa.diskApart
namespace Go.Proofs.Ytaibcfghokhghaa
/-- The row, under a short name, for the claim. -/
theorem diskApart_holds : Rows.DiskApartSaid := diskApart.proved
end Go.Proofs.Ytaibcfghokhghaa
