/- Outcomes that came in, as they read. -/
import Derived.Test.YtmpacmjlpkhgoaaLw
namespace Go.Proofs.Ytmpacmjlpkhgoaa
open Go.RowKit
set_option linter.unusedVariables false

theorem o5_dec : ∀ row, Oks [.int .i64, .int .i64, .int .i64, .int .i64, .int .u64] row → ∃ o : O5, row = o5 o ∧ (Lit.int .i64 o.1).wf = true := by
  intro row h
  obtain ⟨v0, r0, rfl, ⟨x0, rfl, w0⟩, h1⟩ := h.cons
  obtain ⟨v1, r1, rfl, ⟨x1, rfl, w1⟩, h2⟩ := h1.cons
  obtain ⟨v2, r2, rfl, ⟨x2, rfl, w2⟩, h3⟩ := h2.cons
  obtain ⟨v3, r3, rfl, ⟨x3, rfl, w3⟩, h4⟩ := h3.cons
  obtain ⟨v4, r4, rfl, ⟨x4, rfl, w4⟩, h5⟩ := h4.cons
  have := h5.nil
  subst this
  exact ⟨(x0, x1, x2, x3, x4), rfl, w0⟩
theorem outs_of {w : World} {A : Option Addr} {len cap : Nat} {L : List (List Value)} (hL : L.length = len) (hle : len ≤ cap) (hcm : cap ≤ maxLen) (hnil : A = none → len = 0 ∧ cap = 0) (hok : ∀ row ∈ L, Oks [.int .i64, .int .i64, .int .i64, .int .i64, .int .u64] row) (hr : Rows w A 5 L) :
    ∃ l : List O5, l.length = len ∧ Wf l ∧ Sl w A len cap (fl o5 l) := sl_rows (P := fun o : O5 => (Lit.int .i64 o.1).wf = true) o5_len (by decide) o5_dec hL hle hcm hnil hok hr
end Go.Proofs.Ytmpacmjlpkhgoaa
