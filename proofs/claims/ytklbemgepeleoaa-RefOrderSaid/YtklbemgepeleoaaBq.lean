/- A region that draws its order, whose operations read and whose calls leave all that was as it was (they may make memory): walked once, in the order of the text. -/
import Derived.Test.YtklbemgepeleoaaWMore
import Derived.Deep.QuietTactic
import Derived.BigQuiet
set_option linter.unusedVariables false
namespace Go.Proofs.Ytklbemgepeleoaa.Bq
open Go.RowKit Go.Proofs.YtklbemgepeleoaaW.PrintWords Go.Proofs.YtklbemgepeleoaaW.PrintLast Go.Proofs.YtklbemgepeleoaaW.PrintMore
/-- A world in which all that was in W is as it was. -/
structure BW (W : World) where
  w : World
  h : Below W.heap.size W w
instance (W : World) : Nonempty (BW W) := ⟨⟨W, Below.refl _ _⟩⟩
theorem wp_region_bq {P : Program} {id : Nat} {Q : Exit → Act → World → Prop} {a : Act} {W : World} {l : List Oper} (hm : P.follows .mixedOrders = true) (hB : Region.lexB .any l.toArray = true)
    (h : wpQuiet P l.toArray (fun w' => ∃ n : BW W, w' = n.w) (fun a' => ∀ w', (∃ n : BW W, w' = n.w) → Q .normal a' w') l a) : (Code.region id l.toArray true).wp P Q a W :=
  wp_region_quiet (C := fun w' => ∃ n : BW W, w' = n.w) hm hB ⟨⟨{ W with drawn := W.drawn + 1 }, ⟨rfl, rfl, rfl, Nat.le_refl _, fun _ _ => rfl⟩⟩, rfl⟩ (by simpa using h)
theorem bq_call {P : Program} {f : FuncId} {args : Array Value} {W : World} {n : BW W} {v : Value} (h : Calls P f args n.w fun e w' => e = .returned v ∧ Below n.w.heap.size n.w w') :
    Calls P f args n.w fun e w'' => e = .returned v ∧ ∃ m : BW W, w'' = m.w :=
  h.mono fun _ w' ⟨he, hb⟩ => ⟨he, ⟨w', n.h.trans (hb.mono n.h.size)⟩, rfl⟩
theorem bq_call_drawn {P : Program} {f : FuncId} {args : Array Value} {W : World} {n : BW W} {v : Value} (h : Calls P f args n.w fun e w' => e = .returned v ∧ ∃ m, w' = n.w.drewN m) :
    Calls P f args n.w fun e w'' => e = .returned v ∧ ∃ m : BW W, w'' = m.w :=
  h.mono fun _ w' ⟨he, k, hk⟩ => ⟨he, ⟨w', by rw [hk]; exact pw_below_drewN n.h k⟩, rfl⟩
theorem bq_out {B : Nat} {w W : World} (h : Below B w W) (hB : B ≤ W.heap.size) (n : BW W) : Below B w n.w := h.trans (n.h.mono hB)
theorem bq_cell {W : World} {a : Addr} {v : Value} (h : W.cell? a = some v) (n : BW W) : n.w.cell? a = some v := pw_cell_below n.h h
end Go.Proofs.Ytklbemgepeleoaa.Bq
