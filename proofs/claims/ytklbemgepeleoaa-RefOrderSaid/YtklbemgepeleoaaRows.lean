/-
  No cell of these rows narrows 'for every input' (looked for: loops, veiled, ifaces, maps, wideKeys, modest, calm, conditions, laid).
  DERIVED. THE GIVEN ROWS OF THIS SEAT. 4 by the template 'for every input the law returns true; each argument reads behind the call as it read before'; 0 by the template 'total and deterministic' (their statements: YtklbemgepeleoaaTotals.lean).
  GIVEN WITH THE SEED: the statements are not yours to turn. If you find one false, say at which input.
  Laid BY PROGRAM, IN A SANDBOX (cutbox-rows.mjs): the forced cells as the released guide's own fill.sh prints them over the translation 6d9eef4ce6d780c6… (all of the seat's roots in one cut). By AI agents, Wed Nov 11 2026. No macro, syntax, notation, axiom, sorry.
-/
import Derived.Test.YtklbemgepeleoaaChecked
import GoSem.Claim
import GoSem.ClaimJoined
import GoSem.ClaimMapViews
import Derived.JoinedTies
import Derived.KernelRfl
namespace Go.Proofs.Ytklbemgepeleoaa
/- THE CELL 'sum', in the pinned program and in every row, IS THE sha256 OF THE DUMP (.gsa) THAT YtklbemgepeleoaaProg.lean LOADS. Nothing in Lean hashes anything: it is a label: what it is worth is what the hold of that sum in a sandbox is worth. -/
noncomputable def Try.pinned : Pinned := { name := "ytklbemgepeleoaa", sum := "6d9eef4ce6d780c68edbbd26b460f89bf800be7f51ab05539202ead5fc9625c8", checked := Try.checked }
namespace Rows
def none {H : Type} : Left H := { results := [], args := [] }

/-- 'knapsacklaw09.RefUpdates': WHATEVER THE INPUT: true; the input reads as it did. -/
def refUpdatesSpec : ChangeSpec := { name := "refUpdates", fn := fun _ => fun
  | [d1, d2, d3] => { results := [.lit (.bool true)], args := [d1, d2, d3] }
  | _ => none }
def refUpdatesRow : OpenClaim := { program := "ytklbemgepeleoaa", sum := "6d9eef4ce6d780c68edbbd26b460f89bf800be7f51ab05539202ead5fc9625c8", func := "knapsack/knapsacklaw09.RefUpdates", spec := "refUpdates", inPlace := ["slices.overlaps[knapsack/api.Ref]"], unfollowed := true, recurses := true, apart := false }
def RefUpdatesSaid : Prop := refUpdatesRow.holds Try.pinned (OpenSpec.ofChange refUpdatesSpec)

/-- ITS FALSE NEIGHBOUR: 'it returns false'. Refute it at one input. -/
def refUpdatesWrong : ChangeSpec := { name := "refUpdates", fn := fun _ => fun
  | [d1, d2, d3] => { results := [.lit (.bool false)], args := [d1, d2, d3] }
  | _ => none }
def RefUpdatesWrongFalsely : Prop := refUpdatesRow.holds Try.pinned (OpenSpec.ofChange refUpdatesWrong)

/-- 'knapsacklaw09.RefOrder': WHATEVER THE INPUT: true; the input reads as it did. -/
def refOrderSpec : ChangeSpec := { name := "refOrder", fn := fun _ => fun
  | [d1, d2] => { results := [.lit (.bool true)], args := [d1, d2] }
  | _ => none }
def refOrderRow : OpenClaim := { program := "ytklbemgepeleoaa", sum := "6d9eef4ce6d780c68edbbd26b460f89bf800be7f51ab05539202ead5fc9625c8", func := "knapsack/knapsacklaw09.RefOrder", spec := "refOrder", inPlace := ["slices.overlaps[knapsack/api.Ref]"], unfollowed := true, recurses := true, apart := false }
def RefOrderSaid : Prop := refOrderRow.holds Try.pinned (OpenSpec.ofChange refOrderSpec)

/-- ITS FALSE NEIGHBOUR: 'it returns false'. Refute it at one input. -/
def refOrderWrong : ChangeSpec := { name := "refOrder", fn := fun _ => fun
  | [d1, d2] => { results := [.lit (.bool false)], args := [d1, d2] }
  | _ => none }
def RefOrderWrongFalsely : Prop := refOrderRow.holds Try.pinned (OpenSpec.ofChange refOrderWrong)

/-- 'knapsacklaw09.RefTells': WHATEVER THE INPUT: true; the input reads as it did. -/
def refTellsSpec : ChangeSpec := { name := "refTells", fn := fun _ => fun
  | [d1, d2, d3] => { results := [.lit (.bool true)], args := [d1, d2, d3] }
  | _ => none }
def refTellsRow : OpenClaim := { program := "ytklbemgepeleoaa", sum := "6d9eef4ce6d780c68edbbd26b460f89bf800be7f51ab05539202ead5fc9625c8", func := "knapsack/knapsacklaw09.RefTells", spec := "refTells", inPlace := ["slices.overlaps[knapsack/api.Ref]", "internal/abi.NoEscape", "internal/bytealg.IndexByteString", "internal/bytealg.IndexString"], unfollowed := true, recurses := true, named := ["internal/bytealg.MaxLen"], apart := false }
def RefTellsSaid : Prop := refTellsRow.holds Try.pinned (OpenSpec.ofChange refTellsSpec)

/-- ITS FALSE NEIGHBOUR: 'it returns false'. Refute it at one input. -/
def refTellsWrong : ChangeSpec := { name := "refTells", fn := fun _ => fun
  | [d1, d2, d3] => { results := [.lit (.bool false)], args := [d1, d2, d3] }
  | _ => none }
def RefTellsWrongFalsely : Prop := refTellsRow.holds Try.pinned (OpenSpec.ofChange refTellsWrong)

/-- 'knapsacklaw09.RefBack': WHATEVER THE INPUT: true; the input reads as it did. -/
def refBackSpec : ChangeSpec := { name := "refBack", fn := fun _ => fun
  | [d1, d2] => { results := [.lit (.bool true)], args := [d1, d2] }
  | _ => none }
def refBackRow : OpenClaim := { program := "ytklbemgepeleoaa", sum := "6d9eef4ce6d780c68edbbd26b460f89bf800be7f51ab05539202ead5fc9625c8", func := "knapsack/knapsacklaw09.RefBack", spec := "refBack", inPlace := ["slices.overlaps[knapsack/api.Ref]", "internal/abi.NoEscape", "internal/bytealg.IndexByteString", "internal/bytealg.IndexString"], unfollowed := true, recurses := true, named := ["internal/bytealg.MaxLen"], apart := false }
def RefBackSaid : Prop := refBackRow.holds Try.pinned (OpenSpec.ofChange refBackSpec)

/-- ITS FALSE NEIGHBOUR: 'it returns false'. Refute it at one input. -/
def refBackWrong : ChangeSpec := { name := "refBack", fn := fun _ => fun
  | [d1, d2] => { results := [.lit (.bool false)], args := [d1, d2] }
  | _ => none }
def RefBackWrongFalsely : Prop := refBackRow.holds Try.pinned (OpenSpec.ofChange refBackWrong)

/- THE SECOND FORM. 'bulk': how many values and letters a reading holds, each counted each time it is reached (what is shared counts as often as it is met; a slice's spare places count too). A statement '..UptoSaid' is the law's where the arguments, and the package variables that the reading takes, are together of bulk at most 1048576: NARROWER than '..Said'. Prove '..Said' where nothing that the law and all that it calls make is longer than what came in: it says more and counts as full. Else prove '..UptoSaid'. A law counts once. -/
mutual
def uptoBulk {H : Type} : DataW H → Nat
  | .lit (.string bytes) => bytes.length + 1
  | .lit _ => 1
  | .nil => 1
  | .ptr d => uptoBulk d + 1
  | .slice elems spare => uptoBulkAll elems + uptoBulkAll spare + 1
  | .agg parts => uptoBulkAll parts + 1
  | .iface _ d => uptoBulk d + 1
  | .map entries => uptoBulkEntries entries + 1
  | .held _ => 1
def uptoBulkAll {H : Type} : List (DataW H) → Nat
  | [] => 0
  | d :: r => uptoBulk d + uptoBulkAll r
def uptoBulkEntries {H : Type} : List (Lit × DataW H) → Nat
  | [] => 0
  | x :: r => uptoBulkEntry x + uptoBulkEntries r
def uptoBulkEntry {H : Type} : Lit × DataW H → Nat
  | (.string bytes, d) => bytes.length + uptoBulk d + 1
  | (_, d) => uptoBulk d + 1
 end
def uptoSmall : (H : Type) → List (DataW H) → Bool := fun _ ds => decide (uptoBulkAll ds ≤ 1048576)
def OpenSpec.upto (s : _root_.Go.ChangeSpec) : _root_.Go.OpenSpec := { _root_.Go.OpenSpec.ofChange s with cond := some uptoSmall }

/-- 'knapsacklaw09.RefUpdates', WHERE WHAT IT READS IS OF BULK AT MOST 1048576: true; the input reads as it did. -/
def refUpdatesUptoRow : OpenClaim := { program := "ytklbemgepeleoaa", sum := "6d9eef4ce6d780c68edbbd26b460f89bf800be7f51ab05539202ead5fc9625c8", func := "knapsack/knapsacklaw09.RefUpdates", spec := "refUpdates", inPlace := ["slices.overlaps[knapsack/api.Ref]"], unfollowed := true, recurses := true, apart := false, narrowed := true }
def RefUpdatesUptoSaid : Prop := refUpdatesUptoRow.holds Try.pinned (OpenSpec.upto refUpdatesSpec)

/-- 'knapsacklaw09.RefOrder', WHERE WHAT IT READS IS OF BULK AT MOST 1048576: true; the input reads as it did. -/
def refOrderUptoRow : OpenClaim := { program := "ytklbemgepeleoaa", sum := "6d9eef4ce6d780c68edbbd26b460f89bf800be7f51ab05539202ead5fc9625c8", func := "knapsack/knapsacklaw09.RefOrder", spec := "refOrder", inPlace := ["slices.overlaps[knapsack/api.Ref]"], unfollowed := true, recurses := true, apart := false, narrowed := true }
def RefOrderUptoSaid : Prop := refOrderUptoRow.holds Try.pinned (OpenSpec.upto refOrderSpec)

/-- 'knapsacklaw09.RefTells', WHERE WHAT IT READS IS OF BULK AT MOST 1048576: true; the input reads as it did. -/
def refTellsUptoRow : OpenClaim := { program := "ytklbemgepeleoaa", sum := "6d9eef4ce6d780c68edbbd26b460f89bf800be7f51ab05539202ead5fc9625c8", func := "knapsack/knapsacklaw09.RefTells", spec := "refTells", inPlace := ["slices.overlaps[knapsack/api.Ref]", "internal/abi.NoEscape", "internal/bytealg.IndexByteString", "internal/bytealg.IndexString"], unfollowed := true, recurses := true, named := ["internal/bytealg.MaxLen"], apart := false, narrowed := true }
def RefTellsUptoSaid : Prop := refTellsUptoRow.holds Try.pinned (OpenSpec.upto refTellsSpec)

/-- 'knapsacklaw09.RefBack', WHERE WHAT IT READS IS OF BULK AT MOST 1048576: true; the input reads as it did. -/
def refBackUptoRow : OpenClaim := { program := "ytklbemgepeleoaa", sum := "6d9eef4ce6d780c68edbbd26b460f89bf800be7f51ab05539202ead5fc9625c8", func := "knapsack/knapsacklaw09.RefBack", spec := "refBack", inPlace := ["slices.overlaps[knapsack/api.Ref]", "internal/abi.NoEscape", "internal/bytealg.IndexByteString", "internal/bytealg.IndexString"], unfollowed := true, recurses := true, named := ["internal/bytealg.MaxLen"], apart := false, narrowed := true }
def RefBackUptoSaid : Prop := refBackUptoRow.holds Try.pinned (OpenSpec.upto refBackSpec)

end Rows
end Go.Proofs.Ytklbemgepeleoaa
