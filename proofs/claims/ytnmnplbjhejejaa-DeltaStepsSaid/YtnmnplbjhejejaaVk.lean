/- The document's rows on varint hold of the program. -/
import Derived.Test.YtnmnplbjhejejaaVg
import Derived.Test.YtnmnplbjhejejaaPAx7
set_option linter.unusedVariables false
namespace Go.Proofs.Ytnmnplbjhejejaa.Vi
open Go.RowKit Go.Proofs.YtnmnplbjhejejaaW.PrintWords Go.Proofs.YtnmnplbjhejejaaW.PrintLast Go.Proofs.YtnmnplbjhejejaaW.PrintMore Go.Proofs.Ytnmnplbjhejejaa.PA Go.Proofs.Ytnmnplbjhejejaa.Base

theorem u64_of {a : Int} (h : (Lit.int .u64 a).wf = true) : 0 ≤ a ∧ a < 18446744073709551616 := by
  simp [Lit.wf, IntKind.min, IntKind.max, IntKind.signed, IntKind.bits] at h
  omega
theorem knows_ev : Ev (fun k => knapsacklaw01_knows.f k) true := by
  unfold knapsacklaw01_knows.f
  have h1 := get_ev [128, 0] (by decide)
  rw [show dec 0 [128, 0] = none by decide] at h1
  refine Ev.bind h1 ?_
  have h2 := take_ev [2, 97, 98, 99] (by decide)
  rw [show tak [2, 97, 98, 99] = some ([97, 98], [99]) by decide] at h2
  refine Ev.bind h2 ?_
  have h3 := put_ev 300 (by decide)
  rw [show enc 300 = [172, 2] by simp [enc]] at h3
  refine Ev.bind h3 ?_
  refine Base.Ev.ite_pos (mkB_toList _) ?_
  refine Base.Ev.ite_pos rfl ?_
  have h4 := text_ev [97, 98] (by decide)
  rw [show enc [(97 : UInt8), 98].length ++ [97, 98] = [2, 97, 98] by simp [enc]] at h4
  refine Ev.bind h4 ?_
  refine Base.Ev.ite_pos (mkB_toList _) ?_
  refine Base.Ev.ite_pos (mkB_toList _) ?_
  refine Base.Ev.ite_pos (mkB_toList _) ?_
  exact Ev.now _
end Go.Proofs.Ytnmnplbjhejejaa.Vi
