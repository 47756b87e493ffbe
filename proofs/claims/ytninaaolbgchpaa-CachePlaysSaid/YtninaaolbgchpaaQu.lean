/- A drawn region whose operations read, and whose callees only make memory: one walk. -/
import Derived.Test.YtninaaolbgchpaaOw
import Derived.BigQuiet
import Derived.Deep.QuietTactic
namespace Go.Proofs.Ytninaaolbgchpaa
open Go.RowKit
set_option linter.unusedVariables false

/-- Worlds in which all that lay in w lies as it lay. -/
structure Later (w : World) where
  at_ : World
  upd : Upd (fun _ => False) w at_
instance (w : World) : Nonempty (Later w) := ⟨⟨w, Upd.refl (fun _ => False) w⟩⟩
theorem wp_region_upd {P : Program} {id : Nat} {Q : Exit → Act → World → Prop} {a : Act} {w : World} {l : List Oper} (hm : P.follows .mixedOrders = true) (hB : Region.lexB .any l.toArray = true)
    (h : wpQuiet P l.toArray (fun w' => ∃ z : Later w, w' = z.at_) (fun a' => ∀ w', (∃ z : Later w, w' = z.at_) → Q .normal a' w') l a) : (Code.region id l.toArray true).wp P Q a w :=
  wp_region_quiet (C := fun w' => ∃ z : Later w, w' = z.at_) hm hB ⟨⟨_, (Upd.refl (fun _ => False) w).drew⟩, rfl⟩ (by simpa using h)
theorem Later.cell {w : World} {p : Addr} {v : Value} (h : w.cell? p = some v) (hlt : p.block < w.heap.size) (z : Later w) : z.at_.cell? p = some v := (z.upd.cellq hlt (fun h => h)).trans h
/-- A callee that only makes memory. -/
theorem Later.calls {P : Program} {f : FuncId} {args : Array Value} {w : World} {v : Value} (z : Later w) (h : Calls P f args z.at_ fun e w' => e = .returned v ∧ Upd (fun _ => False) z.at_ w') : Calls P f args z.at_ fun e w' => e = .returned v ∧ ∃ y : Later w, w' = y.at_ :=
  h.mono fun _ w' ⟨he, hu⟩ => ⟨he, ⟨w', z.upd.trans hu (fun _ h => h.elim)⟩, rfl⟩
end Go.Proofs.Ytninaaolbgchpaa
