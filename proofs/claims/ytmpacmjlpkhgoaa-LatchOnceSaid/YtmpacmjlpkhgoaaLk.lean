/- The laws' arguments, as they read. -/
import Derived.Test.YtmpacmjlpkhgoaaLw
import Derived.Test.YtmpacmjlpkhgoaaLf
import Derived.Test.YtmpacmjlpkhgoaaLo
namespace Go.Proofs.Ytmpacmjlpkhgoaa
open Go.RowKit
set_option linter.unusedVariables false

theorem o5_dec : ∀ row, Oks [.int .i64, .int .i64, .int .i64, .int .i64, .int .u64] row → ∃ o : O5, row = o5 o ∧ (Lit.int .i64 o.1).wf = true := by
  intro row h
  obtain ⟨v0, r0, rfl, ⟨x0, rfl, w0⟩, h1⟩ := h.cons
  obtain ⟨v1, r1, rfl, ⟨x1, rfl, w1⟩, h2⟩ := h1.cons
  obtain ⟨v2, r2, rfl, ⟨x2, rfl, w2⟩, h3⟩ := h2.cons
  obtain ⟨v3, r3, rfl, ⟨x3, rfl, w3⟩, h4⟩ := h3.cons
  obtain ⟨v4, r4, rfl, ⟨x4, rfl, w4⟩, h5⟩ := h4.cons
  have := h5.nil
  subst this
  exact ⟨(x0, x1, x2, x3, x4), rfl, w0⟩
theorem outs_of {w : World} {A : Option Addr} {len cap : Nat} {L : List (List Value)} (hL : L.length = len) (hle : len ≤ cap) (hcm : cap ≤ maxLen) (hnil : A = none → len = 0 ∧ cap = 0) (hok : ∀ row ∈ L, Oks [.int .i64, .int .i64, .int .i64, .int .i64, .int .u64] row) (hr : Rows w A 5 L) :
    ∃ l : List O5, l.length = len ∧ Wf l ∧ Sl w A len cap (fl o5 l) := sl_rows (P := fun o : O5 => (Lit.int .i64 o.1).wf = true) o5_len (by decide) o5_dec hL hle hcm hnil hok hr
theorem lmay_walk {w : World} (c0 : Array Value) (w0 : Oks [.int .i64, .int .i64, .int .i64, .int .i64, .int .u64] c0.toList) :
    Calls Try.prog 7 #[.agg c0] w fun e w' => e = .returned (.bool true) ∧ Below w.heap.size w w' := by
  obtain ⟨⟨a, b, c, d, e⟩, rfl, _⟩ := agg_dec o5_dec w0
  exact lmay_any a b c d e w
theorem lfirst_walk {w : World} (A0 : Option Addr) (len0 cap0 : Nat) (L0 : List (List Value)) (hL0 : L0.length = len0) (hlc0 : len0 ≤ cap0) (hm0 : cap0 ≤ maxLen) (hn0 : A0 = none → len0 = 0 ∧ cap0 = 0) (hok0 : ∀ row ∈ L0, Oks [.int .i64, .int .i64, .int .i64, .int .i64, .int .u64] row) (hr0 : Rows w A0 5 L0) (a1 : Int) (w1 : (Lit.int .i64 a1).wf = true) :
    Calls Try.prog 6 #[.slice A0 len0 cap0, .int .i64 a1] w fun e w' => e = .returned (.bool true) ∧ Below w.heap.size w w' := by
  obtain ⟨l, hl, hw, hs⟩ := outs_of hL0 hlc0 hm0 hn0 hok0 hr0
  unfold maxLen at hm0
  exact lfirst_any A0 len0 cap0 l hl (by omega) hw a1 w1 w hs
theorem lonce_walk {w : World} (A0 : Option Addr) (len0 cap0 : Nat) (L0 : List (List Value)) (hL0 : L0.length = len0) (hlc0 : len0 ≤ cap0) (hm0 : cap0 ≤ maxLen) (hn0 : A0 = none → len0 = 0 ∧ cap0 = 0) (hok0 : ∀ row ∈ L0, Oks [.int .i64, .int .i64, .int .i64, .int .i64, .int .u64] row) (hr0 : Rows w A0 5 L0) :
    Calls Try.prog 4 #[.slice A0 len0 cap0] w fun e w' => e = .returned (.bool true) ∧ Below w.heap.size w w' := by
  obtain ⟨l, hl, hw, hs⟩ := outs_of hL0 hlc0 hm0 hn0 hok0 hr0
  unfold maxLen at hm0
  exact lonce_any A0 len0 cap0 l hl (by omega) hw w hs
end Go.Proofs.Ytmpacmjlpkhgoaa
