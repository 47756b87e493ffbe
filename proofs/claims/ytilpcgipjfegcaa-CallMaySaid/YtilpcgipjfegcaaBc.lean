/- A call that came in, as it reads. -/
import Derived.Test.YtilpcgipjfegcaaBs
namespace Go.Proofs.Ytilpcgipjfegcaa
open Go.RowKit Go.ChangeShapes Go.WideShapes Go.Deep
set_option linter.unusedVariables false
set_option linter.unusedSimpArgs false

/-- A call's cells. -/
def IsCall (w : World) (v : Value) : Prop := ∃ A n c M m d st sp cs sa xs ms, v = .agg #[.slice A n c, .slice M m d, .int .i64 st, .int .i64 sp, .int .i64 cs, .int .u64 sa] ∧ IsBatch w A n c M m d xs ms
theorem call_arg {H : Type} {enc : TypeId × Value → H} {held : Bool} {w : World} {v : Value} {d : DataW H} {p : List MemPlace} (hv : ∃ cs, v = .agg cs ∧ cs.size = Try.prog.cellsOf 28) (h : DataW.Trod enc Try.prog w 0 (fun _ => true) held 28 v d p) : IsCall w v := by
  obtain ⟨⟨cs⟩, rfl, hsz⟩ := hv
  obtain ⟨fuel, hf⟩ := h
  have e2 : Try.prog.cellsOf 28 = 6 := by kernel_rfl
  rw [e2] at hsz
  obtain ⟨k0, y0, h0⟩ := fields_of Try.underlying28 hf 0 0 2 25 (by kernel_rfl)
  obtain ⟨k1, y1, h1⟩ := fields_of Try.underlying28 hf 1 2 1 3 (by kernel_rfl)
  obtain ⟨k2, y2, h2⟩ := fields_of Try.underlying28 hf 2 3 1 3 (by kernel_rfl)
  obtain ⟨k3, y3, h3⟩ := fields_of Try.underlying28 hf 3 4 1 3 (by kernel_rfl)
  obtain ⟨k4, y4, h4⟩ := fields_of Try.underlying28 hf 4 5 1 26 (by kernel_rfl)
  match cs, hsz with
  | [a, b, x1, x2, x3, x4], _ =>
    simp [Value.cells] at h0 h1 h2 h3 h4
    obtain ⟨A, n, c, M, m, d, xs, ms, e, hb⟩ := batch_of h0 rfl
    simp at e
    obtain ⟨rfl, rfl⟩ := e
    obtain ⟨s1, _, rfl⟩ : ∃ s t, x1 = .int .i64 s := by
      have := flat_ok 8 k1 _ [.int .i64] _ _ (by kernel_rfl) h1
      obtain ⟨v, r, e, ⟨s, rfl, _⟩, _⟩ := this.cons
      simp at e
      exact ⟨s, 0, e.1⟩
    obtain ⟨s2, _, rfl⟩ : ∃ s t, x2 = .int .i64 s := by
      have := flat_ok 8 k2 _ [.int .i64] _ _ (by kernel_rfl) h2
      obtain ⟨v, r, e, ⟨s, rfl, _⟩, _⟩ := this.cons
      simp at e
      exact ⟨s, 0, e.1⟩
    obtain ⟨s3, _, rfl⟩ : ∃ s t, x3 = .int .i64 s := by
      have := flat_ok 8 k3 _ [.int .i64] _ _ (by kernel_rfl) h3
      obtain ⟨v, r, e, ⟨s, rfl, _⟩, _⟩ := this.cons
      simp at e
      exact ⟨s, 0, e.1⟩
    obtain ⟨s4, _, rfl⟩ : ∃ s t, x4 = .int .u64 s := by
      have := flat_ok 8 k4 _ [.int .u64] _ _ (by kernel_rfl) h4
      obtain ⟨v, r, e, ⟨s, rfl, _⟩, _⟩ := this.cons
      simp at e
      exact ⟨s, 0, e.1⟩
    exact ⟨A, n, c, M, m, d, s1, s2, s3, s4, xs, ms, rfl, hb⟩
end Go.Proofs.Ytilpcgipjfegcaa
