/- The laws' arguments, as they read: LatchStays, LatchNobody. -/
import Derived.Test.YtmpacmjlpkhgoaaLd
import Derived.Test.YtmpacmjlpkhgoaaLst
import Derived.Test.YtmpacmjlpkhgoaaLn
namespace Go.Proofs.Ytmpacmjlpkhgoaa
open Go.RowKit
set_option linter.unusedVariables false

theorem lstays_walk {w : World} (A0 : Option Addr) (len0 cap0 : Nat) (L0 : List (List Value)) (hL0 : L0.length = len0) (hlc0 : len0 ≤ cap0) (hm0 : cap0 ≤ maxLen) (hn0 : A0 = none → len0 = 0 ∧ cap0 = 0) (hok0 : ∀ row ∈ L0, Oks [.int .i64, .int .i64, .int .i64, .int .i64, .int .u64] row) (hr0 : Rows w A0 5 L0) (A1 : Option Addr) (len1 cap1 : Nat) (L1 : List (List Value)) (hL1 : L1.length = len1) (hlc1 : len1 ≤ cap1) (hm1 : cap1 ≤ maxLen) (hn1 : A1 = none → len1 = 0 ∧ cap1 = 0) (hok1 : ∀ row ∈ L1, Oks [.int .i64, .int .i64, .int .i64, .int .i64, .int .u64] row) (hr1 : Rows w A1 5 L1) :
    Calls Try.prog 5 #[.slice A0 len0 cap0, .slice A1 len1 cap1] w fun e w' => e = .returned (.bool true) ∧ Below w.heap.size w w' := by
  obtain ⟨l, hl, hw, hs⟩ := outs_of hL0 hlc0 hm0 hn0 hok0 hr0
  obtain ⟨l', hl', hw', hs'⟩ := outs_of hL1 hlc1 hm1 hn1 hok1 hr1
  unfold maxLen at hm0 hm1
  exact lstays_any A0 len0 cap0 l hl (by omega) hw A1 len1 cap1 l' hl' (by omega) hw' w hs hs'
theorem lnobody_walk {w : World} (A0 : Option Addr) (len0 cap0 : Nat) (L0 : List (List Value)) (hL0 : L0.length = len0) (hlc0 : len0 ≤ cap0) (hm0 : cap0 ≤ maxLen) (hn0 : A0 = none → len0 = 0 ∧ cap0 = 0) (hok0 : ∀ row ∈ L0, Oks [.int .i64, .int .i64, .int .i64, .int .i64, .int .u64] row) (hr0 : Rows w A0 5 L0) (c1 : Array Value) (w1 : Oks [.int .i64, .int .i64, .int .i64, .int .i64, .int .u64] c1.toList) :
    Calls Try.prog 8 #[.slice A0 len0 cap0, .agg c1] w fun e w' => e = .returned (.bool true) ∧ Below w.heap.size w w' := by
  obtain ⟨l, hl, hw, hs⟩ := outs_of hL0 hlc0 hm0 hn0 hok0 hr0
  obtain ⟨⟨a, b, c, d, e⟩, rfl, _⟩ := agg_dec o5_dec w1
  unfold maxLen at hm0
  exact lnobody_any A0 len0 cap0 l hl (by omega) hw a b c d e w hs
end Go.Proofs.Ytmpacmjlpkhgoaa
