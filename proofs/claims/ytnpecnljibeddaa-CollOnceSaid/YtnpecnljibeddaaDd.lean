/- Deeds as four cells. -/
import Derived.Test.YtnpecnljibeddaaOw
namespace Go.Proofs.Ytnpecnljibeddaa
open Go.RowKit
set_option linter.unusedVariables false

/-- A deed: kind, id, argument, how much later. -/
abbrev D4 := Int × Int × Int × Int
def d4 (x : D4) : List Value := [.int .i64 x.1, .int .i64 x.2.1, .int .i64 x.2.2.1, .int .u64 x.2.2.2]
abbrev d4s : List Lf := [.int .i64, .int .i64, .int .i64, .int .u64]
theorem d4_len (x : D4) : (d4 x).length = 4 := rfl
/-- Times are words. -/
def Wt (x : D4) : Prop := 0 ≤ x.2.2.2 ∧ x.2.2.2 ≤ 18446744073709551615
def Wd (l : List D4) : Prop := ∀ x ∈ l, Wt x
theorem d4_dec : ∀ row, Oks d4s row → ∃ a, row = d4 a ∧ Wt a := by
  intro row h
  obtain ⟨v0, r0, e0, ⟨x, rfl, _⟩, h1⟩ := h.cons
  obtain ⟨v1, r1, e1, ⟨y, rfl, _⟩, h2⟩ := h1.cons
  obtain ⟨v2, r2, e2, ⟨z, rfl, _⟩, h3⟩ := h2.cons
  obtain ⟨v3, r3, e3, ⟨t, rfl, wt⟩, h4⟩ := h3.cons
  have e4 := h4.nil
  subst e0 e1 e2 e3 e4
  simp only [Lit.wf, Bool.and_eq_true, decide_eq_true_eq] at wt
  exact ⟨(x, y, z, t), rfl, wt.1, wt.2⟩
end Go.Proofs.Ytnpecnljibeddaa
