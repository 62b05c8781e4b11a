/- A region that draws its order, whose operations only read and whose callees make memory but change none: one walk in the order of the text. -/
import Derived.Test.YtegcdefdkebmnaaBase
import Derived.Deep.QuietTactic
import Derived.BigQuiet
namespace Go.Proofs.Ytegcdefdkebmnaa
open Go.RowKit

/-- a world that is w below w's size -/
structure BX (w : World) where
  X : World
  h : Below w.heap.size w X
instance bx_some (w : World) : Nonempty (BX w) := ⟨⟨w, Below.refl _ _⟩⟩
theorem wp_region_below {P : Program} {id : Nat} {Q : Exit → Act → World → Prop} {a : Act} {w : World} {l : List Oper} (hm : P.follows .mixedOrders = true) (hB : Region.lexB .any l.toArray = true)
    (h : wpQuiet P l.toArray (fun w' => ∃ x : BX w, w' = x.X) (fun a' => ∀ w', (∃ x : BX w, w' = x.X) → Q .normal a' w') l a) : (Code.region id l.toArray true).wp P Q a w :=
  wp_region_quiet (C := fun w' => ∃ x : BX w, w' = x.X) hm hB ⟨⟨w.drew, (Below.refl _ _).drew⟩, rfl⟩ (by simpa using h)
theorem Calls.below_of {P : Program} {f : FuncId} {args : Array Value} {w : World} {x : BX w} {v : Value}
    (h : Calls P f args x.X fun e w' => e = .returned v ∧ Below x.X.heap.size x.X w') : Calls P f args x.X fun e w'' => e = .returned v ∧ ∃ m : BX w, w'' = m.X :=
  h.mono fun _ w' ⟨he, hm⟩ => ⟨he, ⟨w', bthen x.h hm⟩, rfl⟩
theorem Calls.below_eq {P : Program} {f : FuncId} {args : Array Value} {w : World} {x : BX w} {v : Value}
    (h : Calls P f args x.X fun e w' => e = .returned v ∧ x.X = w') : Calls P f args x.X fun e w'' => e = .returned v ∧ ∃ m : BX w, w'' = m.X :=
  h.mono fun _ _ ⟨he, hm⟩ => ⟨he, ⟨x, hm.symm⟩⟩
theorem BX.cell {w : World} {p : Addr} {v : Value} (h : w.cell? p = some v) (x : BX w) : x.X.cell? p = some v :=
  (x.h.cell (World.block_lt_of_cell? _ _ h)).trans h
end Go.Proofs.Ytegcdefdkebmnaa
