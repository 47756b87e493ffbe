/- Outcomes, as five cells. -/
import Derived.Test.YtilpcgipjfegcaaProg
import Derived.Test.YtilpcgipjfegcaaOw
import Derived.KernelRfl
namespace Go.Proofs.Ytilpcgipjfegcaa
open Go.RowKit
set_option linter.unusedVariables false
set_option linter.unusedSimpArgs false

/-- An outcome: id, kind, cause, value, when. -/
abbrev O5 := Int × Int × Int × Int × Int
def o5 (o : O5) : List Value := [.int .i64 o.1, .int .i64 o.2.1, .int .i64 o.2.2.1, .int .i64 o.2.2.2.1, .int .u64 o.2.2.2.2]
theorem o5_len (o : O5) : (o5 o).length = 5 := rfl
theorem o5_inj {a b : O5} (h : o5 a = o5 b) : a = b := by
  obtain ⟨a1, a2, a3, a4, a5⟩ := a
  obtain ⟨b1, b2, b3, b4, b5⟩ := b
  simp [o5] at h
  obtain ⟨rfl, rfl, rfl, rfl, rfl⟩ := h
  rfl
def omay (o : O5) : Bool :=
  if o.2.1 = 1 ∨ o.2.1 = 2 then decide (o.2.2.1 = 0)
  else (decide (o.2.1 = 3) || (decide (o.2.1 = 4) && decide (o.2.2.2.1 = 0))) && (decide (1 ≤ o.2.2.1) && decide (o.2.2.1 ≤ 4))
theorem infoO : (Try.prog.info? 60).map (fun i => (i.zero, i.size, i.bytes)) = some (some (.agg #[.int .i64 0, .int .i64 0, .int .i64 0, .int .i64 0, .int .u64 0]), 5, 40) := by kernel_rfl
theorem o5_one (l : List O5) : ∀ u ∈ fl o5 l, u.oneCell' = true := by
  intro u hu
  obtain ⟨a, _, hm⟩ := fl_mem hu
  simp [o5] at hm
  rcases hm with rfl | rfl | rfl | rfl | rfl <;> rfl
end Go.Proofs.Ytilpcgipjfegcaa
