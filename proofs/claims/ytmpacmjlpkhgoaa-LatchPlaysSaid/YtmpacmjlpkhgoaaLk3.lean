/- The laws' arguments, as they read: LatchPlays. -/
import Derived.Test.YtmpacmjlpkhgoaaLd
import Derived.Test.YtmpacmjlpkhgoaaLp
namespace Go.Proofs.Ytmpacmjlpkhgoaa
open Go.RowKit
set_option linter.unusedVariables false

theorem lplays_walk {w : World} (A0 : Option Addr) (len0 cap0 : Nat) (L0 : List (List Value)) (hL0 : L0.length = len0) (hlc0 : len0 ≤ cap0) (hm0 : cap0 ≤ maxLen) (hn0 : A0 = none → len0 = 0 ∧ cap0 = 0) (hok0 : ∀ row ∈ L0, Oks [.int .i64, .int .i64, .int .i64, .int .i64, .int .u64] row) (hr0 : Rows w A0 5 L0) (a1 : Int) (w1 : (Lit.int .i64 a1).wf = true) (a2 : Int) (w2 : (Lit.int .i64 a2).wf = true) :
    Calls Try.prog 3 #[.slice A0 len0 cap0, .int .i64 a1, .int .i64 a2] w fun e w' => e = .returned (.bool true) ∧ Below w.heap.size w w' := by
  obtain ⟨l, hl, hw, hs⟩ := outs_of hL0 hlc0 hm0 hn0 hok0 hr0
  unfold maxLen at hm0
  exact lplays_any A0 len0 cap0 l hl (by omega) hw a1 w1 a2 w hs
end Go.Proofs.Ytmpacmjlpkhgoaa
