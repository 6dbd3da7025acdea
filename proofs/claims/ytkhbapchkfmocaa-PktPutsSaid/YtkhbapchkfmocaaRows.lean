/-
  No cell of these rows narrows 'for every input' (looked for: loops, veiled, ifaces, maps, wideKeys, modest, calm, conditions, laid).
  DERIVED. THE GIVEN ROWS OF THIS SEAT. 6 by the template 'for every input the law returns true; each argument reads behind the call as it read before'; 0 by the template 'total and deterministic' (their statements: YtkhbapchkfmocaaTotals.lean).
  GIVEN WITH THE SEED: the statements are not yours to turn. If you find one false, say at which input.
  Laid BY PROGRAM, IN A SANDBOX (cutbox-rows.mjs): the forced cells as the released guide's own fill.sh prints them over the translation 4bba89d66420eef6… (all of the seat's roots in one cut). By AI agents, Wed Nov 11 2026. No macro, syntax, notation, axiom, sorry.
-/
import Derived.Test.YtkhbapchkfmocaaChecked
import GoSem.Claim
import GoSem.ClaimJoined
import GoSem.ClaimMapViews
import Derived.JoinedTies
import Derived.KernelRfl
namespace Go.Proofs.Ytkhbapchkfmocaa
/- THE CELL 'sum', in the pinned program and in every row, IS THE sha256 OF THE DUMP (.gsa) THAT YtkhbapchkfmocaaProg.lean LOADS. Nothing in Lean hashes anything: it is a label: what it is worth is what the hold of that sum in a sandbox is worth. -/
noncomputable def Try.pinned : Pinned := { name := "ytkhbapchkfmocaa", sum := "4bba89d66420eef65fc5704c97c051ee94c154c951d340cb1ca0c331b613bcf5", checked := Try.checked }
namespace Rows
def none {H : Type} : Left H := { results := [], args := [] }

/-- 'knapsacklaw08.BandPuts': WHATEVER THE INPUT: true; the input reads as it did. -/
def bandPutsSpec : ChangeSpec := { name := "bandPuts", fn := fun _ => fun
  | [d1, d2, d3] => { results := [.lit (.bool true)], args := [d1, d2, d3] }
  | _ => none }
def bandPutsRow : OpenClaim := { program := "ytkhbapchkfmocaa", sum := "4bba89d66420eef65fc5704c97c051ee94c154c951d340cb1ca0c331b613bcf5", func := "knapsack/knapsacklaw08.BandPuts", spec := "bandPuts", apart := false }
def BandPutsSaid : Prop := bandPutsRow.holds Try.pinned (OpenSpec.ofChange bandPutsSpec)

/-- ITS FALSE NEIGHBOUR: 'it returns false'. Refute it at one input. -/
def bandPutsWrong : ChangeSpec := { name := "bandPuts", fn := fun _ => fun
  | [d1, d2, d3] => { results := [.lit (.bool false)], args := [d1, d2, d3] }
  | _ => none }
def BandPutsWrongFalsely : Prop := bandPutsRow.holds Try.pinned (OpenSpec.ofChange bandPutsWrong)

/-- 'knapsacklaw08.BandGets': WHATEVER THE INPUT: true; the input reads as it did. -/
def bandGetsSpec : ChangeSpec := { name := "bandGets", fn := fun _ => fun
  | [d] => { results := [.lit (.bool true)], args := [d] }
  | _ => none }
def bandGetsRow : OpenClaim := { program := "ytkhbapchkfmocaa", sum := "4bba89d66420eef65fc5704c97c051ee94c154c951d340cb1ca0c331b613bcf5", func := "knapsack/knapsacklaw08.BandGets", spec := "bandGets", apart := false }
def BandGetsSaid : Prop := bandGetsRow.holds Try.pinned (OpenSpec.ofChange bandGetsSpec)

/-- ITS FALSE NEIGHBOUR: 'it returns false'. Refute it at one input. -/
def bandGetsWrong : ChangeSpec := { name := "bandGets", fn := fun _ => fun
  | [d] => { results := [.lit (.bool false)], args := [d] }
  | _ => none }
def BandGetsWrongFalsely : Prop := bandGetsRow.holds Try.pinned (OpenSpec.ofChange bandGetsWrong)

/-- 'knapsacklaw08.BandMixed': WHATEVER THE INPUT: true; the input reads as it did. -/
def bandMixedSpec : ChangeSpec := { name := "bandMixed", fn := fun _ => fun
  | [d] => { results := [.lit (.bool true)], args := [d] }
  | _ => none }
def bandMixedRow : OpenClaim := { program := "ytkhbapchkfmocaa", sum := "4bba89d66420eef65fc5704c97c051ee94c154c951d340cb1ca0c331b613bcf5", func := "knapsack/knapsacklaw08.BandMixed", spec := "bandMixed", apart := false }
def BandMixedSaid : Prop := bandMixedRow.holds Try.pinned (OpenSpec.ofChange bandMixedSpec)

/-- ITS FALSE NEIGHBOUR: 'it returns false'. Refute it at one input. -/
def bandMixedWrong : ChangeSpec := { name := "bandMixed", fn := fun _ => fun
  | [d] => { results := [.lit (.bool false)], args := [d] }
  | _ => none }
def BandMixedWrongFalsely : Prop := bandMixedRow.holds Try.pinned (OpenSpec.ofChange bandMixedWrong)

/-- 'knapsacklaw07.PktPuts': WHATEVER THE INPUT: true; the input reads as it did. -/
def pktPutsSpec : ChangeSpec := { name := "pktPuts", fn := fun _ => fun
  | [d] => { results := [.lit (.bool true)], args := [d] }
  | _ => none }
def pktPutsRow : OpenClaim := { program := "ytkhbapchkfmocaa", sum := "4bba89d66420eef65fc5704c97c051ee94c154c951d340cb1ca0c331b613bcf5", func := "knapsack/knapsacklaw07.PktPuts", spec := "pktPuts", inPlace := ["internal/bytealg.IndexByteString"], apart := false }
def PktPutsSaid : Prop := pktPutsRow.holds Try.pinned (OpenSpec.ofChange pktPutsSpec)

/-- ITS FALSE NEIGHBOUR: 'it returns false'. Refute it at one input. -/
def pktPutsWrong : ChangeSpec := { name := "pktPuts", fn := fun _ => fun
  | [d] => { results := [.lit (.bool false)], args := [d] }
  | _ => none }
def PktPutsWrongFalsely : Prop := pktPutsRow.holds Try.pinned (OpenSpec.ofChange pktPutsWrong)

/-- 'knapsacklaw07.PktGets': WHATEVER THE INPUT: true; the input reads as it did. -/
def pktGetsSpec : ChangeSpec := { name := "pktGets", fn := fun _ => fun
  | [d] => { results := [.lit (.bool true)], args := [d] }
  | _ => none }
def pktGetsRow : OpenClaim := { program := "ytkhbapchkfmocaa", sum := "4bba89d66420eef65fc5704c97c051ee94c154c951d340cb1ca0c331b613bcf5", func := "knapsack/knapsacklaw07.PktGets", spec := "pktGets", inPlace := ["internal/bytealg.IndexByteString"], apart := false }
def PktGetsSaid : Prop := pktGetsRow.holds Try.pinned (OpenSpec.ofChange pktGetsSpec)

/-- ITS FALSE NEIGHBOUR: 'it returns false'. Refute it at one input. -/
def pktGetsWrong : ChangeSpec := { name := "pktGets", fn := fun _ => fun
  | [d] => { results := [.lit (.bool false)], args := [d] }
  | _ => none }
def PktGetsWrongFalsely : Prop := pktGetsRow.holds Try.pinned (OpenSpec.ofChange pktGetsWrong)

/-- 'knapsacklaw07.PktBack': WHATEVER THE INPUT: true; the input reads as it did. -/
def pktBackSpec : ChangeSpec := { name := "pktBack", fn := fun _ => fun
  | [d1, d2] => { results := [.lit (.bool true)], args := [d1, d2] }
  | _ => none }
def pktBackRow : OpenClaim := { program := "ytkhbapchkfmocaa", sum := "4bba89d66420eef65fc5704c97c051ee94c154c951d340cb1ca0c331b613bcf5", func := "knapsack/knapsacklaw07.PktBack", spec := "pktBack", inPlace := ["internal/bytealg.IndexByteString"], apart := false }
def PktBackSaid : Prop := pktBackRow.holds Try.pinned (OpenSpec.ofChange pktBackSpec)

/-- ITS FALSE NEIGHBOUR: 'it returns false'. Refute it at one input. -/
def pktBackWrong : ChangeSpec := { name := "pktBack", fn := fun _ => fun
  | [d1, d2] => { results := [.lit (.bool false)], args := [d1, d2] }
  | _ => none }
def PktBackWrongFalsely : Prop := pktBackRow.holds Try.pinned (OpenSpec.ofChange pktBackWrong)

/- THE SECOND FORM. 'bulk': how many values and letters a reading holds, each counted each time it is reached (what is shared counts as often as it is met; a slice's spare places count too). A statement '..UptoSaid' is the law's where the arguments, and the package variables that the reading takes, are together of bulk at most 1048576: NARROWER than '..Said'. Prove '..Said' where nothing that the law and all that it calls make is longer than what came in: it says more and counts as full. Else prove '..UptoSaid'. A law counts once. -/
mutual
def uptoBulk {H : Type} : DataW H → Nat
  | .lit (.string bytes) => bytes.length + 1
  | .lit _ => 1
  | .nil => 1
  | .ptr d => uptoBulk d + 1
  | .slice elems spare => uptoBulkAll elems + uptoBulkAll spare + 1
  | .agg parts => uptoBulkAll parts + 1
  | .iface _ d => uptoBulk d + 1
  | .map entries => uptoBulkEntries entries + 1
  | .held _ => 1
def uptoBulkAll {H : Type} : List (DataW H) → Nat
  | [] => 0
  | d :: r => uptoBulk d + uptoBulkAll r
def uptoBulkEntries {H : Type} : List (Lit × DataW H) → Nat
  | [] => 0
  | x :: r => uptoBulkEntry x + uptoBulkEntries r
def uptoBulkEntry {H : Type} : Lit × DataW H → Nat
  | (.string bytes, d) => bytes.length + uptoBulk d + 1
  | (_, d) => uptoBulk d + 1
 end
def uptoSmall : (H : Type) → List (DataW H) → Bool := fun _ ds => decide (uptoBulkAll ds ≤ 1048576)
def OpenSpec.upto (s : _root_.Go.ChangeSpec) : _root_.Go.OpenSpec := { _root_.Go.OpenSpec.ofChange s with cond := some uptoSmall }

/-- 'knapsacklaw08.BandPuts', WHERE WHAT IT READS IS OF BULK AT MOST 1048576: true; the input reads as it did. -/
def bandPutsUptoRow : OpenClaim := { program := "ytkhbapchkfmocaa", sum := "4bba89d66420eef65fc5704c97c051ee94c154c951d340cb1ca0c331b613bcf5", func := "knapsack/knapsacklaw08.BandPuts", spec := "bandPuts", apart := false, narrowed := true }
def BandPutsUptoSaid : Prop := bandPutsUptoRow.holds Try.pinned (OpenSpec.upto bandPutsSpec)

/-- 'knapsacklaw08.BandGets', WHERE WHAT IT READS IS OF BULK AT MOST 1048576: true; the input reads as it did. -/
def bandGetsUptoRow : OpenClaim := { program := "ytkhbapchkfmocaa", sum := "4bba89d66420eef65fc5704c97c051ee94c154c951d340cb1ca0c331b613bcf5", func := "knapsack/knapsacklaw08.BandGets", spec := "bandGets", apart := false, narrowed := true }
def BandGetsUptoSaid : Prop := bandGetsUptoRow.holds Try.pinned (OpenSpec.upto bandGetsSpec)

/-- 'knapsacklaw08.BandMixed', WHERE WHAT IT READS IS OF BULK AT MOST 1048576: true; the input reads as it did. -/
def bandMixedUptoRow : OpenClaim := { program := "ytkhbapchkfmocaa", sum := "4bba89d66420eef65fc5704c97c051ee94c154c951d340cb1ca0c331b613bcf5", func := "knapsack/knapsacklaw08.BandMixed", spec := "bandMixed", apart := false, narrowed := true }
def BandMixedUptoSaid : Prop := bandMixedUptoRow.holds Try.pinned (OpenSpec.upto bandMixedSpec)

/-- 'knapsacklaw07.PktPuts', WHERE WHAT IT READS IS OF BULK AT MOST 1048576: true; the input reads as it did. -/
def pktPutsUptoRow : OpenClaim := { program := "ytkhbapchkfmocaa", sum := "4bba89d66420eef65fc5704c97c051ee94c154c951d340cb1ca0c331b613bcf5", func := "knapsack/knapsacklaw07.PktPuts", spec := "pktPuts", inPlace := ["internal/bytealg.IndexByteString"], apart := false, narrowed := true }
def PktPutsUptoSaid : Prop := pktPutsUptoRow.holds Try.pinned (OpenSpec.upto pktPutsSpec)

/-- 'knapsacklaw07.PktGets', WHERE WHAT IT READS IS OF BULK AT MOST 1048576: true; the input reads as it did. -/
def pktGetsUptoRow : OpenClaim := { program := "ytkhbapchkfmocaa", sum := "4bba89d66420eef65fc5704c97c051ee94c154c951d340cb1ca0c331b613bcf5", func := "knapsack/knapsacklaw07.PktGets", spec := "pktGets", inPlace := ["internal/bytealg.IndexByteString"], apart := false, narrowed := true }
def PktGetsUptoSaid : Prop := pktGetsUptoRow.holds Try.pinned (OpenSpec.upto pktGetsSpec)

/-- 'knapsacklaw07.PktBack', WHERE WHAT IT READS IS OF BULK AT MOST 1048576: true; the input reads as it did. -/
def pktBackUptoRow : OpenClaim := { program := "ytkhbapchkfmocaa", sum := "4bba89d66420eef65fc5704c97c051ee94c154c951d340cb1ca0c331b613bcf5", func := "knapsack/knapsacklaw07.PktBack", spec := "pktBack", inPlace := ["internal/bytealg.IndexByteString"], apart := false, narrowed := true }
def PktBackUptoSaid : Prop := pktBackUptoRow.holds Try.pinned (OpenSpec.upto pktBackSpec)

end Rows
end Go.Proofs.Ytkhbapchkfmocaa
