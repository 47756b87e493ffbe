/- Holders compared. -/
import Derived.Test.YtkhdgdbbhbphiaaPk
import Derived.Laws.StructEq
namespace Go.Proofs.Ytkhdgdbbhbphiaa
open Go.RowKit
set_option linter.unusedVariables false
set_option linter.unusedSimpArgs false
theorem decH (x y : H2) : (x.1 == y.1 && x.2 == y.2) = decide (x = y) := by
  obtain ⟨a, b⟩ := x
  obtain ⟨c, d⟩ := y
  by_cases h1 : a = c <;> by_cases h2 : b = d <;> simp [h1, h2]
theorem eqI (x y : H2) (w : World) : (Op.equalIn 10000 24 (hval x) (hval y)).run Try.prog w = .ok (decide (x = y)) w := by
  have u3 := Try.underlying3
  have a3 := Try.isAgg3
  have z3 := Try.sizeOf3
  have hS : Try.prog.underlying 24 = some (.struct (Try.prog.fieldsOf 24)) := by kernel_rfl
  have hp : Try.prog.stoodInHeld 24 = false := by kernel_rfl
  rw [← decH]
  rw [show (10000 : Nat) = 9999 + 1 from rfl, run_equalIn_agg w 9999 24 _ _ hS hp]
  simp only [Program.fieldsOf, Try.underlying24]
  go_simp
  by_cases h1 : x.fst = y.fst <;> by_cases h2 : x.snd = y.snd <;> simp [h1, h2]
theorem gdH (op : BinOp) (a b : Operand) (x y : H2) (w : World) : (eqGuard op 24 a b (hval x) (hval y)).run Try.prog w = .ok () w := run_eqGuard_agg w op 24 a b _ _ (by kernel_rfl)
end Go.Proofs.Ytkhdgdbbhbphiaa
