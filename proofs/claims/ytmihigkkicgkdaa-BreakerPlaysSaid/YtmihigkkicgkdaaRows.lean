/-
  No cell of these rows narrows 'for every input' (looked for: loops, veiled, ifaces, maps, wideKeys, modest, calm, conditions, laid).
  DERIVED. THE GIVEN ROWS OF THIS SEAT. 6 by the template 'for every input the law returns true; each argument reads behind the call as it read before'; 0 by the template 'total and deterministic' (their statements: YtmihigkkicgkdaaTotals.lean).
  GIVEN WITH THE SEED: the statements are not yours to turn. If you find one false, say at which input.
  Laid BY PROGRAM, IN A SANDBOX (cutbox-rows.mjs): the forced cells as the released guide's own fill.sh prints them over the translation bfcbf7c9d9628125… (all of the seat's roots in one cut). By AI agents, Wed Nov 11 2026. No macro, syntax, notation, axiom, sorry.
-/
import Derived.Test.YtmihigkkicgkdaaChecked
import GoSem.Claim
import GoSem.ClaimJoined
import GoSem.ClaimMapViews
import Derived.JoinedTies
import Derived.KernelRfl
namespace Go.Proofs.Ytmihigkkicgkdaa
/- THE CELL 'sum', in the pinned program and in every row, IS THE sha256 OF THE DUMP (.gsa) THAT YtmihigkkicgkdaaProg.lean LOADS. Nothing in Lean hashes anything: it is a label: what it is worth is what the hold of that sum in a sandbox is worth. -/
noncomputable def Try.pinned : Pinned := { name := "ytmihigkkicgkdaa", sum := "bfcbf7c9d9628125ca313c9adc29cb3cf8991c0685549f480f3fad145e795def", checked := Try.checked }
namespace Rows
def none {H : Type} : Left H := { results := [], args := [] }

/-- 'porpoiselaw09.BreakerSleeps': WHATEVER THE INPUT: true; the input reads as it did. -/
def breakerSleepsSpec : ChangeSpec := { name := "breakerSleeps", fn := fun _ => fun
  | [d1, d2] => { results := [.lit (.bool true)], args := [d1, d2] }
  | _ => none }
def breakerSleepsRow : OpenClaim := { program := "ytmihigkkicgkdaa", sum := "bfcbf7c9d9628125ca313c9adc29cb3cf8991c0685549f480f3fad145e795def", func := "porpoise/porpoiselaw09.BreakerSleeps", spec := "breakerSleeps", apart := false }
def BreakerSleepsSaid : Prop := breakerSleepsRow.holds Try.pinned (OpenSpec.ofChange breakerSleepsSpec)

/-- ITS FALSE NEIGHBOUR: 'it returns false'. Refute it at one input. -/
def breakerSleepsWrong : ChangeSpec := { name := "breakerSleeps", fn := fun _ => fun
  | [d1, d2] => { results := [.lit (.bool false)], args := [d1, d2] }
  | _ => none }
def BreakerSleepsWrongFalsely : Prop := breakerSleepsRow.holds Try.pinned (OpenSpec.ofChange breakerSleepsWrong)

/-- 'porpoiselaw09.BreakerPlays': WHATEVER THE INPUT: true; the input reads as it did. -/
def breakerPlaysSpec : ChangeSpec := { name := "breakerPlays", fn := fun _ => fun
  | [d1, d2] => { results := [.lit (.bool true)], args := [d1, d2] }
  | _ => none }
def breakerPlaysRow : OpenClaim := { program := "ytmihigkkicgkdaa", sum := "bfcbf7c9d9628125ca313c9adc29cb3cf8991c0685549f480f3fad145e795def", func := "porpoise/porpoiselaw09.BreakerPlays", spec := "breakerPlays", apart := false }
def BreakerPlaysSaid : Prop := breakerPlaysRow.holds Try.pinned (OpenSpec.ofChange breakerPlaysSpec)

/-- ITS FALSE NEIGHBOUR: 'it returns false'. Refute it at one input. -/
def breakerPlaysWrong : ChangeSpec := { name := "breakerPlays", fn := fun _ => fun
  | [d1, d2] => { results := [.lit (.bool false)], args := [d1, d2] }
  | _ => none }
def BreakerPlaysWrongFalsely : Prop := breakerPlaysRow.holds Try.pinned (OpenSpec.ofChange breakerPlaysWrong)

/-- 'porpoiselaw09.BreakerOne': WHATEVER THE INPUT: true; the input reads as it did. -/
def breakerOneSpec : ChangeSpec := { name := "breakerOne", fn := fun _ => fun
  | [d1, d2, d3] => { results := [.lit (.bool true)], args := [d1, d2, d3] }
  | _ => none }
def breakerOneRow : OpenClaim := { program := "ytmihigkkicgkdaa", sum := "bfcbf7c9d9628125ca313c9adc29cb3cf8991c0685549f480f3fad145e795def", func := "porpoise/porpoiselaw09.BreakerOne", spec := "breakerOne", apart := false }
def BreakerOneSaid : Prop := breakerOneRow.holds Try.pinned (OpenSpec.ofChange breakerOneSpec)

/-- ITS FALSE NEIGHBOUR: 'it returns false'. Refute it at one input. -/
def breakerOneWrong : ChangeSpec := { name := "breakerOne", fn := fun _ => fun
  | [d1, d2, d3] => { results := [.lit (.bool false)], args := [d1, d2, d3] }
  | _ => none }
def BreakerOneWrongFalsely : Prop := breakerOneRow.holds Try.pinned (OpenSpec.ofChange breakerOneWrong)

/-- 'porpoiselaw09.BreakerForced': WHATEVER THE INPUT: true; the input reads as it did. -/
def breakerForcedSpec : ChangeSpec := { name := "breakerForced", fn := fun _ => fun
  | [d1, d2, d3] => { results := [.lit (.bool true)], args := [d1, d2, d3] }
  | _ => none }
def breakerForcedRow : OpenClaim := { program := "ytmihigkkicgkdaa", sum := "bfcbf7c9d9628125ca313c9adc29cb3cf8991c0685549f480f3fad145e795def", func := "porpoise/porpoiselaw09.BreakerForced", spec := "breakerForced", apart := false }
def BreakerForcedSaid : Prop := breakerForcedRow.holds Try.pinned (OpenSpec.ofChange breakerForcedSpec)

/-- ITS FALSE NEIGHBOUR: 'it returns false'. Refute it at one input. -/
def breakerForcedWrong : ChangeSpec := { name := "breakerForced", fn := fun _ => fun
  | [d1, d2, d3] => { results := [.lit (.bool false)], args := [d1, d2, d3] }
  | _ => none }
def BreakerForcedWrongFalsely : Prop := breakerForcedRow.holds Try.pinned (OpenSpec.ofChange breakerForcedWrong)

/-- 'porpoiselaw09.BreakerBack': WHATEVER THE INPUT: true; the input reads as it did. -/
def breakerBackSpec : ChangeSpec := { name := "breakerBack", fn := fun _ => fun
  | [d1, d2] => { results := [.lit (.bool true)], args := [d1, d2] }
  | _ => none }
def breakerBackRow : OpenClaim := { program := "ytmihigkkicgkdaa", sum := "bfcbf7c9d9628125ca313c9adc29cb3cf8991c0685549f480f3fad145e795def", func := "porpoise/porpoiselaw09.BreakerBack", spec := "breakerBack", apart := false }
def BreakerBackSaid : Prop := breakerBackRow.holds Try.pinned (OpenSpec.ofChange breakerBackSpec)

/-- ITS FALSE NEIGHBOUR: 'it returns false'. Refute it at one input. -/
def breakerBackWrong : ChangeSpec := { name := "breakerBack", fn := fun _ => fun
  | [d1, d2] => { results := [.lit (.bool false)], args := [d1, d2] }
  | _ => none }
def BreakerBackWrongFalsely : Prop := breakerBackRow.holds Try.pinned (OpenSpec.ofChange breakerBackWrong)

/-- 'porpoiselaw09.BreakerNobody': WHATEVER THE INPUT: true; the input reads as it did. -/
def breakerNobodySpec : ChangeSpec := { name := "breakerNobody", fn := fun _ => fun
  | [d1, d2, d3] => { results := [.lit (.bool true)], args := [d1, d2, d3] }
  | _ => none }
def breakerNobodyRow : OpenClaim := { program := "ytmihigkkicgkdaa", sum := "bfcbf7c9d9628125ca313c9adc29cb3cf8991c0685549f480f3fad145e795def", func := "porpoise/porpoiselaw09.BreakerNobody", spec := "breakerNobody", apart := false }
def BreakerNobodySaid : Prop := breakerNobodyRow.holds Try.pinned (OpenSpec.ofChange breakerNobodySpec)

/-- ITS FALSE NEIGHBOUR: 'it returns false'. Refute it at one input. -/
def breakerNobodyWrong : ChangeSpec := { name := "breakerNobody", fn := fun _ => fun
  | [d1, d2, d3] => { results := [.lit (.bool false)], args := [d1, d2, d3] }
  | _ => none }
def BreakerNobodyWrongFalsely : Prop := breakerNobodyRow.holds Try.pinned (OpenSpec.ofChange breakerNobodyWrong)

/- THE SECOND FORM. 'bulk': how many values and letters a reading holds, each counted each time it is reached (what is shared counts as often as it is met; a slice's spare places count too). A statement '..UptoSaid' is the law's where the arguments, and the package variables that the reading takes, are together of bulk at most 1048576: NARROWER than '..Said'. Prove '..Said' where nothing that the law and all that it calls make is longer than what came in: it says more and counts as full. Else prove '..UptoSaid'. A law counts once. -/
mutual
def uptoBulk {H : Type} : DataW H → Nat
  | .lit (.string bytes) => bytes.length + 1
  | .lit _ => 1
  | .nil => 1
  | .ptr d => uptoBulk d + 1
  | .slice elems spare => uptoBulkAll elems + uptoBulkAll spare + 1
  | .agg parts => uptoBulkAll parts + 1
  | .iface _ d => uptoBulk d + 1
  | .map entries => uptoBulkEntries entries + 1
  | .held _ => 1
def uptoBulkAll {H : Type} : List (DataW H) → Nat
  | [] => 0
  | d :: r => uptoBulk d + uptoBulkAll r
def uptoBulkEntries {H : Type} : List (Lit × DataW H) → Nat
  | [] => 0
  | x :: r => uptoBulkEntry x + uptoBulkEntries r
def uptoBulkEntry {H : Type} : Lit × DataW H → Nat
  | (.string bytes, d) => bytes.length + uptoBulk d + 1
  | (_, d) => uptoBulk d + 1
 end
def uptoSmall : (H : Type) → List (DataW H) → Bool := fun _ ds => decide (uptoBulkAll ds ≤ 1048576)
def OpenSpec.upto (s : _root_.Go.ChangeSpec) : _root_.Go.OpenSpec := { _root_.Go.OpenSpec.ofChange s with cond := some uptoSmall }

/-- 'porpoiselaw09.BreakerSleeps', WHERE WHAT IT READS IS OF BULK AT MOST 1048576: true; the input reads as it did. -/
def breakerSleepsUptoRow : OpenClaim := { program := "ytmihigkkicgkdaa", sum := "bfcbf7c9d9628125ca313c9adc29cb3cf8991c0685549f480f3fad145e795def", func := "porpoise/porpoiselaw09.BreakerSleeps", spec := "breakerSleeps", apart := false, narrowed := true }
def BreakerSleepsUptoSaid : Prop := breakerSleepsUptoRow.holds Try.pinned (OpenSpec.upto breakerSleepsSpec)

/-- 'porpoiselaw09.BreakerPlays', WHERE WHAT IT READS IS OF BULK AT MOST 1048576: true; the input reads as it did. -/
def breakerPlaysUptoRow : OpenClaim := { program := "ytmihigkkicgkdaa", sum := "bfcbf7c9d9628125ca313c9adc29cb3cf8991c0685549f480f3fad145e795def", func := "porpoise/porpoiselaw09.BreakerPlays", spec := "breakerPlays", apart := false, narrowed := true }
def BreakerPlaysUptoSaid : Prop := breakerPlaysUptoRow.holds Try.pinned (OpenSpec.upto breakerPlaysSpec)

/-- 'porpoiselaw09.BreakerOne', WHERE WHAT IT READS IS OF BULK AT MOST 1048576: true; the input reads as it did. -/
def breakerOneUptoRow : OpenClaim := { program := "ytmihigkkicgkdaa", sum := "bfcbf7c9d9628125ca313c9adc29cb3cf8991c0685549f480f3fad145e795def", func := "porpoise/porpoiselaw09.BreakerOne", spec := "breakerOne", apart := false, narrowed := true }
def BreakerOneUptoSaid : Prop := breakerOneUptoRow.holds Try.pinned (OpenSpec.upto breakerOneSpec)

/-- 'porpoiselaw09.BreakerForced', WHERE WHAT IT READS IS OF BULK AT MOST 1048576: true; the input reads as it did. -/
def breakerForcedUptoRow : OpenClaim := { program := "ytmihigkkicgkdaa", sum := "bfcbf7c9d9628125ca313c9adc29cb3cf8991c0685549f480f3fad145e795def", func := "porpoise/porpoiselaw09.BreakerForced", spec := "breakerForced", apart := false, narrowed := true }
def BreakerForcedUptoSaid : Prop := breakerForcedUptoRow.holds Try.pinned (OpenSpec.upto breakerForcedSpec)

/-- 'porpoiselaw09.BreakerBack', WHERE WHAT IT READS IS OF BULK AT MOST 1048576: true; the input reads as it did. -/
def breakerBackUptoRow : OpenClaim := { program := "ytmihigkkicgkdaa", sum := "bfcbf7c9d9628125ca313c9adc29cb3cf8991c0685549f480f3fad145e795def", func := "porpoise/porpoiselaw09.BreakerBack", spec := "breakerBack", apart := false, narrowed := true }
def BreakerBackUptoSaid : Prop := breakerBackUptoRow.holds Try.pinned (OpenSpec.upto breakerBackSpec)

/-- 'porpoiselaw09.BreakerNobody', WHERE WHAT IT READS IS OF BULK AT MOST 1048576: true; the input reads as it did. -/
def breakerNobodyUptoRow : OpenClaim := { program := "ytmihigkkicgkdaa", sum := "bfcbf7c9d9628125ca313c9adc29cb3cf8991c0685549f480f3fad145e795def", func := "porpoise/porpoiselaw09.BreakerNobody", spec := "breakerNobody", apart := false, narrowed := true }
def BreakerNobodyUptoSaid : Prop := breakerNobodyUptoRow.holds Try.pinned (OpenSpec.upto breakerNobodySpec)

end Rows
end Go.Proofs.Ytmihigkkicgkdaa
