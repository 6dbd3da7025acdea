/- The row of LinkEnds, out of the printed contract and the session's pure statement. -/
import Derived.Test.YtnmnplbjhejejaaRows
import Derived.Test.YtnmnplbjhejejaaLkg
import Derived.Test.YtnmnplbjhejejaaPureLinkEnds
import Derived.Test.YtnmnplbjhejejaaOpens
import Derived.WalkKit
import Derived.ProofKit
import Derived.OpenShut
import Derived.ShutString
import Derived.ChangeOld
import Derived.Below
import Derived.SizedLaws
set_option linter.unusedVariables false
set_option linter.unusedSimpArgs false
namespace Go.Proofs.Ytnmnplbjhejejaa.linkEnds
open Go.ChangeShapes Go.WideShapes Go.ChangeAt Go.RowKit Go.Proofs.Ytnmnplbjhejejaa.PA Go.Proofs.YtnmnplbjhejejaaW.PrintWords Go.Proofs.YtnmnplbjhejejaaW.PrintLast Go.Proofs.YtnmnplbjhejejaaW.PrintMore
open Go.ChangeMaps (open_string shut_string)
theorem own : ownKnob Try.prog.godebug = none := by kernel_rfl
theorem laidOut : laidOutB Try.prog = true := by kernel_rfl
def good66 (x : S66) : Prop := ((Lit.int .u8 x.f0).wf = true) ∧ ((Lit.int .u8 x.f1).wf = true) ∧ (x.f2.size ≤ 9223372036854775807) ∧ ((Lit.int .u8 x.f3).wf = true) ∧ ((Lit.int .u8 x.f4).wf = true) ∧ ((Lit.int .u8 x.f5).wf = true)
theorem opens66 {H : Type} {enc : TypeId × Value → H} {w : World} : Opens.Opens enc Try.prog w 66 (k66.K w) good66 := by
  intro fuel cs y h
  obtain ⟨xs, n, rfl, _, hlen, hxl, hf⟩ := DataW.trod_struct Try.underlying66 h
  have hl : cs.length = 6 := hlen.trans (by kernel_rfl)
  obtain ⟨y0, h0⟩ := Opens.field_of hxl hf 0 _ rfl
  obtain ⟨x0, k0_, g0⟩ := (Opens.Opens.int Try.underlying5) _ _ _ h0
  obtain ⟨y1, h1⟩ := Opens.field_of hxl hf 1 _ rfl
  obtain ⟨x1, k1_, g1⟩ := (Opens.Opens.int Try.underlying5) _ _ _ h1
  obtain ⟨y2, h2⟩ := Opens.field_of hxl hf 2 _ rfl
  obtain ⟨x2, k2_, g2⟩ := (Opens.Opens.string Try.underlying9) _ _ _ h2
  obtain ⟨y3, h3⟩ := Opens.field_of hxl hf 3 _ rfl
  obtain ⟨x3, k3_, g3⟩ := (Opens.Opens.int Try.underlying5) _ _ _ h3
  obtain ⟨y4, h4⟩ := Opens.field_of hxl hf 4 _ rfl
  obtain ⟨x4, k4_, g4⟩ := (Opens.Opens.int Try.underlying5) _ _ _ h4
  obtain ⟨y5, h5⟩ := Opens.field_of hxl hf 5 _ rfl
  obtain ⟨x5, k5_, g5⟩ := (Opens.Opens.int Try.underlying5) _ _ _ h5
  refine ⟨⟨x0, x1, x2, x3, x4, x5⟩, ⟨_, _, ?_, k0_, ⟨_, _, rfl, k1_, ⟨_, _, rfl, k2_, ⟨_, _, rfl, k3_, ⟨_, _, rfl, k4_, k5_⟩⟩⟩⟩⟩, ⟨g0, g1, g2, g3, g4, g5⟩⟩
  show cs = (cs.drop 0).take (Try.prog.cellsOf 5) ++ ((cs.drop 1).take (Try.prog.cellsOf 5) ++ ((cs.drop 2).take (Try.prog.cellsOf 9) ++ ((cs.drop 3).take (Try.prog.cellsOf 5) ++ ((cs.drop 4).take (Try.prog.cellsOf 5) ++ ((cs.drop 5).take (Try.prog.cellsOf 5))))))
  rw [show Try.prog.cellsOf 5 = 1 by kernel_rfl, show Try.prog.cellsOf 9 = 1 by kernel_rfl]
  match cs, hl with
  | [a0, a1, a2, a3, a4, a5], _ => rfl
set_option maxRecDepth 100000 in
theorem lifted (os : Os) (started : os.Started) (H : Type) (enc : TypeId × Value → H) :
    ReturnsInHanded {} Try.checked os 10 .any (Rows.linkEndsSpec.pre6 enc Try.prog Try.f10 Rows.linkEndsRow.domain false) (Rows.linkEndsSpec.post enc Try.prog Try.f10 false true false false) := by
  refine returnsInHanded_of_change_sized (C := Try.checked) own started (by kernel_rfl) Try.func10
    (ChangeSpec.witness6 (enc := enc) (C := Try.checked) false ⟨#[], #[.slice none 0 0], []⟩ 8 (by kernel_rfl) (by kernel_rfl) (by kernel_rfl) (by kernel_rfl)) ?_
  intro W base args ds gs before hval0 hW hcnd hsz0 _
  have hsz : (DataW.weightsEach Try.prog (Try.f10.params.toList ++ Rows.linkEndsSpec.plain.varTypes Try.prog) (ds ++ gs)).all (· ≤ reachBytes) = true := hsz0
  have hval : ∀ (j : Nat) t v, Try.f10.params[j]? = some t → args[j]? = some v → Value.okWide Try.prog W .any base t v := hval0
  have hW' := hW
  obtain ⟨p, q, hA0, hV, rfl, hfz, hnd⟩ := hW
  have hA : DataW.TrodAll enc Try.prog W 0 (fun _ => true) true Try.f10.params.toList args.toList ds p := hA0
  rw [Try.params10] at hA hval hsz
  obtain ⟨v0, vs0, d0, ds0, p0, q0, hargs, rfl, rfl, h0, r0⟩ := trodAll_cons hA
  obtain ⟨rfl, rfl, rfl⟩ := trodAll_nil r0
  obtain rfl : args = #[v0] := by cases args; simp_all
  obtain ⟨rfl, rfl⟩ := trodVars_none hV
  have k0 := h0
  have lt0 : ∀ x ∈ p0, x.block < W.heap.size := by obtain ⟨m, hm⟩ := k0; exact DataW.trod_lt m _ _ _ hm
  obtain ⟨A0, c0, l0, rfl, hC0, hc0, w0⟩ := Opens.top_slice (d := k66) Try.underlying54 (by kernel_rfl) opens66 (hval 0 54 v0 rfl rfl) h0
  clear hA0 hval0 hsz0 hsz
  obtain ⟨k, hp⟩ := Pure.LinkEnds l0 w0 hC0.2.1
  refine (PA.knapsacklaw24_LinkEnds.calls k A0 c0 l0 true W hC0 hc0 hp).mono fun e W' he => ?_
  obtain ⟨he, bel⟩ := he
  subst he
  exact ⟨_, rfl, _, _, _, [], _, [], hW', trodAll_mk1 (shut_bool Try.underlying4 _), (trodAll_cons_mk (Below.trod laidOut (by kernel_rfl) (of_decide_eq_true (by kernel_rfl)) k0 bel lt0) trodAll_mk0), rfl, bel.frame _, fun h => by cases h⟩
theorem over : Rows.linkEndsRow.holds Try.pinned (OpenSpec.ofChange Rows.linkEndsSpec) :=
  OpenClaim.holds_of_wide 10 Try.f10 rfl rfl rfl rfl rfl rfl rfl ⟨rfl, rfl, rfl, rfl, rfl⟩ rfl rfl rfl rfl rfl (by kernel_rfl) Try.func10 (by kernel_rfl)
    (of_decide_eq_true (by kernel_rfl)) (by unfold Func.isWrapper; first | (rw [if_pos (by decide +kernel)]; kernel_rfl) | (rw [if_neg (by decide +kernel)]; exact ⟨rfl, rfl⟩))
    (fun os started H enc _ => lifted os started H enc)
theorem proved : Rows.LinkEndsSaid := over
#print axioms proved
end Go.Proofs.Ytnmnplbjhejejaa.linkEnds
namespace Go.Proofs.Ytnmnplbjhejejaa
/-- The row, under a short name, for the claim. -/
theorem linkEnds_holds : Rows.LinkEndsSaid := linkEnds.proved
end Go.Proofs.Ytnmnplbjhejejaa
