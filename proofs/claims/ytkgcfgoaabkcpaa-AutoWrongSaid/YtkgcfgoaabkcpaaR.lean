import Derived.Test.YtkgcfgoaabkcpaaE0
import Derived.Deep.QuietTactic
import Derived.BigQuiet
namespace Go.Proofs.Ytkgcfgoaabkcpaa.Pa
open Go.RowKit

/-- The worlds that have grown out of one. -/
def At (w : World) : Type := { W : World // Below w.heap.size w W }
instance (w : World) : Nonempty (At w) := ⟨⟨w, Below.refl _ _⟩⟩
theorem At.cell {w : World} {p : Addr} {v : Value} (h : w.cell? p = some v) (x : At w) : x.1.cell? p = some v := (x.2.cell (World.block_lt_of_cell? w p h)).trans h

/-- A region that draws its order, whose operations and callees read old memory and make new: one walk, in the order of the text. -/
theorem wp_region_at {P : Program} {id : Nat} {Q : Exit → Act → World → Prop} {a : Act} {w : World} {l : List Oper} (hm : P.follows .mixedOrders = true) (hB : Region.lexB .any l.toArray = true)
    (h : wpQuiet P l.toArray (fun w' => ∃ x : At w, w' = x.1) (fun a' => ∀ w', (∃ x : At w, w' = x.1) → Q .normal a' w') l a) : (Code.region id l.toArray true).wp P Q a w :=
  wp_region_quiet (C := fun w' => ∃ x : At w, w' = x.1) hm hB ⟨⟨_, (Below.refl _ w).drew⟩, rfl⟩ (by simpa using h)
/-- A callee's contract there. -/
theorem Calls.at_ {P : Program} {f : FuncId} {args : Array Value} {w : World} {x : At w} {v : Value} (h : Calls P f args x.1 fun e w' => e = .returned v ∧ Below x.1.heap.size x.1 w') :
    Calls P f args x.1 fun e w'' => e = .returned v ∧ ∃ y : At w, w'' = y.1 :=
  h.mono fun _ w'' ⟨he, hb⟩ => ⟨he, ⟨w'', bch x.2 hb⟩, rfl⟩
end Go.Proofs.Ytkgcfgoaabkcpaa.Pa
