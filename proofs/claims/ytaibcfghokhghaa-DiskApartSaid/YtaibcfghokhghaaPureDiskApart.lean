/- DiskApart: whatever acts: a copy goes on as the disk does, and apart. No condition. -/
import Derived.Test.YtaibcfghokhghaaDkd
set_option linter.unusedVariables false
namespace Go.Proofs.Ytaibcfghokhghaa.Pure
open Go.RowKit Go.Proofs.YtaibcfghokhghaaW.PrintWords Go.Proofs.YtaibcfghokhghaaW.PrintLast Go.Proofs.YtaibcfghokhghaaW.PrintMore Go.Proofs.Ytaibcfghokhghaa.PA
theorem DiskApart (l0 l1 : List S33) (x0 : Int) (x1 x2 : ByteArray) (x3 x4 : Int) (g0 : ∀ z ∈ l0, ActWf z) (n0 : l0.length ≤ 9223372036854775807) (g1 : ∀ z ∈ l1, ActWf z) (n1 : l1.length ≤ 9223372036854775807) {F0 F1 F2 F3 F4 : Prop} (_ : F0) (_ : F1) (_ : F2) (_ : F3) (_ : F4) :
    ∃ k, knapsacklaw21_DiskApart.f k l0 l1 x0 x1 x2 x3 x4 = some true := by
  refine ⟨0, ?_⟩
  unfold knapsacklaw21_DiskApart.f
  exact if_pos ⟨g0, n0, g1, n1⟩
end Go.Proofs.Ytaibcfghokhghaa.Pure
