/-
  No cell of these rows narrows 'for every input' (looked for: loops, veiled, ifaces, maps, wideKeys, modest, calm, conditions, laid).
  DERIVED. THE GIVEN ROWS OF THIS SEAT. 6 by the template 'for every input the law returns true; each argument reads behind the call as it read before'; 0 by the template 'total and deterministic' (their statements: YtilpcgipjfegcaaTotals.lean).
  GIVEN WITH THE SEED: the statements are not yours to turn. If you find one false, say at which input.
  Laid BY PROGRAM, IN A SANDBOX (cutbox-rows.mjs): the forced cells as the released guide's own fill.sh prints them over the translation d63a6a3cf363f2d3… (all of the seat's roots in one cut). By AI agents, Wed Nov 11 2026. No macro, syntax, notation, axiom, sorry.
-/
import Derived.Test.YtilpcgipjfegcaaChecked
import GoSem.Claim
import GoSem.ClaimJoined
import GoSem.ClaimMapViews
import Derived.JoinedTies
import Derived.KernelRfl
namespace Go.Proofs.Ytilpcgipjfegcaa
/- THE CELL 'sum', in the pinned program and in every row, IS THE sha256 OF THE DUMP (.gsa) THAT YtilpcgipjfegcaaProg.lean LOADS. Nothing in Lean hashes anything: it is a label: what it is worth is what the hold of that sum in a sandbox is worth. -/
noncomputable def Try.pinned : Pinned := { name := "ytilpcgipjfegcaa", sum := "d63a6a3cf363f2d320ba8f3b92f7a6d4de767e5ecd33a646a74676b97df45fb6", checked := Try.checked }
namespace Rows
def none {H : Type} : Left H := { results := [], args := [] }

/-- 'porpoiselaw15.CallOuts': WHATEVER THE INPUT: true; the input reads as it did. -/
def callOutsSpec : ChangeSpec := { name := "callOuts", fn := fun _ => fun
  | [d1, d2, d3] => { results := [.lit (.bool true)], args := [d1, d2, d3] }
  | _ => none }
def callOutsRow : OpenClaim := { program := "ytilpcgipjfegcaa", sum := "d63a6a3cf363f2d320ba8f3b92f7a6d4de767e5ecd33a646a74676b97df45fb6", func := "porpoise/porpoiselaw15.CallOuts", spec := "callOuts", apart := false }
def CallOutsSaid : Prop := callOutsRow.holds Try.pinned (OpenSpec.ofChange callOutsSpec)

/-- ITS FALSE NEIGHBOUR: 'it returns false'. Refute it at one input. -/
def callOutsWrong : ChangeSpec := { name := "callOuts", fn := fun _ => fun
  | [d1, d2, d3] => { results := [.lit (.bool false)], args := [d1, d2, d3] }
  | _ => none }
def CallOutsWrongFalsely : Prop := callOutsRow.holds Try.pinned (OpenSpec.ofChange callOutsWrong)

/-- 'porpoiselaw15.CallEnds': WHATEVER THE INPUT: true; the input reads as it did. -/
def callEndsSpec : ChangeSpec := { name := "callEnds", fn := fun _ => fun
  | [d1, d2, d3] => { results := [.lit (.bool true)], args := [d1, d2, d3] }
  | _ => none }
def callEndsRow : OpenClaim := { program := "ytilpcgipjfegcaa", sum := "d63a6a3cf363f2d320ba8f3b92f7a6d4de767e5ecd33a646a74676b97df45fb6", func := "porpoise/porpoiselaw15.CallEnds", spec := "callEnds", apart := false }
def CallEndsSaid : Prop := callEndsRow.holds Try.pinned (OpenSpec.ofChange callEndsSpec)

/-- ITS FALSE NEIGHBOUR: 'it returns false'. Refute it at one input. -/
def callEndsWrong : ChangeSpec := { name := "callEnds", fn := fun _ => fun
  | [d1, d2, d3] => { results := [.lit (.bool false)], args := [d1, d2, d3] }
  | _ => none }
def CallEndsWrongFalsely : Prop := callEndsRow.holds Try.pinned (OpenSpec.ofChange callEndsWrong)

/-- 'porpoiselaw15.CallRuns': WHATEVER THE INPUT: true; the input reads as it did. -/
def callRunsSpec : ChangeSpec := { name := "callRuns", fn := fun _ => fun
  | [d1, d2] => { results := [.lit (.bool true)], args := [d1, d2] }
  | _ => none }
def callRunsRow : OpenClaim := { program := "ytilpcgipjfegcaa", sum := "d63a6a3cf363f2d320ba8f3b92f7a6d4de767e5ecd33a646a74676b97df45fb6", func := "porpoise/porpoiselaw15.CallRuns", spec := "callRuns", apart := false }
def CallRunsSaid : Prop := callRunsRow.holds Try.pinned (OpenSpec.ofChange callRunsSpec)

/-- ITS FALSE NEIGHBOUR: 'it returns false'. Refute it at one input. -/
def callRunsWrong : ChangeSpec := { name := "callRuns", fn := fun _ => fun
  | [d1, d2] => { results := [.lit (.bool false)], args := [d1, d2] }
  | _ => none }
def CallRunsWrongFalsely : Prop := callRunsRow.holds Try.pinned (OpenSpec.ofChange callRunsWrong)

/-- 'porpoiselaw15.CallTells': WHATEVER THE INPUT: true; the input reads as it did. -/
def callTellsSpec : ChangeSpec := { name := "callTells", fn := fun _ => fun
  | [d1, d2, d3] => { results := [.lit (.bool true)], args := [d1, d2, d3] }
  | _ => none }
def callTellsRow : OpenClaim := { program := "ytilpcgipjfegcaa", sum := "d63a6a3cf363f2d320ba8f3b92f7a6d4de767e5ecd33a646a74676b97df45fb6", func := "porpoise/porpoiselaw15.CallTells", spec := "callTells", apart := false }
def CallTellsSaid : Prop := callTellsRow.holds Try.pinned (OpenSpec.ofChange callTellsSpec)

/-- ITS FALSE NEIGHBOUR: 'it returns false'. Refute it at one input. -/
def callTellsWrong : ChangeSpec := { name := "callTells", fn := fun _ => fun
  | [d1, d2, d3] => { results := [.lit (.bool false)], args := [d1, d2, d3] }
  | _ => none }
def CallTellsWrongFalsely : Prop := callTellsRow.holds Try.pinned (OpenSpec.ofChange callTellsWrong)

/-- 'porpoiselaw15.CallOver': WHATEVER THE INPUT: true; the input reads as it did. -/
def callOverSpec : ChangeSpec := { name := "callOver", fn := fun _ => fun
  | [d1, d2] => { results := [.lit (.bool true)], args := [d1, d2] }
  | _ => none }
def callOverRow : OpenClaim := { program := "ytilpcgipjfegcaa", sum := "d63a6a3cf363f2d320ba8f3b92f7a6d4de767e5ecd33a646a74676b97df45fb6", func := "porpoise/porpoiselaw15.CallOver", spec := "callOver", apart := false }
def CallOverSaid : Prop := callOverRow.holds Try.pinned (OpenSpec.ofChange callOverSpec)

/-- ITS FALSE NEIGHBOUR: 'it returns false'. Refute it at one input. -/
def callOverWrong : ChangeSpec := { name := "callOver", fn := fun _ => fun
  | [d1, d2] => { results := [.lit (.bool false)], args := [d1, d2] }
  | _ => none }
def CallOverWrongFalsely : Prop := callOverRow.holds Try.pinned (OpenSpec.ofChange callOverWrong)

/-- 'porpoiselaw15.CallMay': WHATEVER THE INPUT: true; the input reads as it did. -/
def callMaySpec : ChangeSpec := { name := "callMay", fn := fun _ => fun
  | [d1, d2, d3] => { results := [.lit (.bool true)], args := [d1, d2, d3] }
  | _ => none }
def callMayRow : OpenClaim := { program := "ytilpcgipjfegcaa", sum := "d63a6a3cf363f2d320ba8f3b92f7a6d4de767e5ecd33a646a74676b97df45fb6", func := "porpoise/porpoiselaw15.CallMay", spec := "callMay", apart := false }
def CallMaySaid : Prop := callMayRow.holds Try.pinned (OpenSpec.ofChange callMaySpec)

/-- ITS FALSE NEIGHBOUR: 'it returns false'. Refute it at one input. -/
def callMayWrong : ChangeSpec := { name := "callMay", fn := fun _ => fun
  | [d1, d2, d3] => { results := [.lit (.bool false)], args := [d1, d2, d3] }
  | _ => none }
def CallMayWrongFalsely : Prop := callMayRow.holds Try.pinned (OpenSpec.ofChange callMayWrong)

/- THE SECOND FORM. 'bulk': how many values and letters a reading holds, each counted each time it is reached (what is shared counts as often as it is met; a slice's spare places count too). A statement '..UptoSaid' is the law's where the arguments, and the package variables that the reading takes, are together of bulk at most 1048576: NARROWER than '..Said'. Prove '..Said' where nothing that the law and all that it calls make is longer than what came in: it says more and counts as full. Else prove '..UptoSaid'. A law counts once. -/
mutual
def uptoBulk {H : Type} : DataW H → Nat
  | .lit (.string bytes) => bytes.length + 1
  | .lit _ => 1
  | .nil => 1
  | .ptr d => uptoBulk d + 1
  | .slice elems spare => uptoBulkAll elems + uptoBulkAll spare + 1
  | .agg parts => uptoBulkAll parts + 1
  | .iface _ d => uptoBulk d + 1
  | .map entries => uptoBulkEntries entries + 1
  | .held _ => 1
def uptoBulkAll {H : Type} : List (DataW H) → Nat
  | [] => 0
  | d :: r => uptoBulk d + uptoBulkAll r
def uptoBulkEntries {H : Type} : List (Lit × DataW H) → Nat
  | [] => 0
  | x :: r => uptoBulkEntry x + uptoBulkEntries r
def uptoBulkEntry {H : Type} : Lit × DataW H → Nat
  | (.string bytes, d) => bytes.length + uptoBulk d + 1
  | (_, d) => uptoBulk d + 1
 end
def uptoSmall : (H : Type) → List (DataW H) → Bool := fun _ ds => decide (uptoBulkAll ds ≤ 1048576)
def OpenSpec.upto (s : _root_.Go.ChangeSpec) : _root_.Go.OpenSpec := { _root_.Go.OpenSpec.ofChange s with cond := some uptoSmall }

/-- 'porpoiselaw15.CallOuts', WHERE WHAT IT READS IS OF BULK AT MOST 1048576: true; the input reads as it did. -/
def callOutsUptoRow : OpenClaim := { program := "ytilpcgipjfegcaa", sum := "d63a6a3cf363f2d320ba8f3b92f7a6d4de767e5ecd33a646a74676b97df45fb6", func := "porpoise/porpoiselaw15.CallOuts", spec := "callOuts", apart := false, narrowed := true }
def CallOutsUptoSaid : Prop := callOutsUptoRow.holds Try.pinned (OpenSpec.upto callOutsSpec)

/-- 'porpoiselaw15.CallEnds', WHERE WHAT IT READS IS OF BULK AT MOST 1048576: true; the input reads as it did. -/
def callEndsUptoRow : OpenClaim := { program := "ytilpcgipjfegcaa", sum := "d63a6a3cf363f2d320ba8f3b92f7a6d4de767e5ecd33a646a74676b97df45fb6", func := "porpoise/porpoiselaw15.CallEnds", spec := "callEnds", apart := false, narrowed := true }
def CallEndsUptoSaid : Prop := callEndsUptoRow.holds Try.pinned (OpenSpec.upto callEndsSpec)

/-- 'porpoiselaw15.CallRuns', WHERE WHAT IT READS IS OF BULK AT MOST 1048576: true; the input reads as it did. -/
def callRunsUptoRow : OpenClaim := { program := "ytilpcgipjfegcaa", sum := "d63a6a3cf363f2d320ba8f3b92f7a6d4de767e5ecd33a646a74676b97df45fb6", func := "porpoise/porpoiselaw15.CallRuns", spec := "callRuns", apart := false, narrowed := true }
def CallRunsUptoSaid : Prop := callRunsUptoRow.holds Try.pinned (OpenSpec.upto callRunsSpec)

/-- 'porpoiselaw15.CallTells', WHERE WHAT IT READS IS OF BULK AT MOST 1048576: true; the input reads as it did. -/
def callTellsUptoRow : OpenClaim := { program := "ytilpcgipjfegcaa", sum := "d63a6a3cf363f2d320ba8f3b92f7a6d4de767e5ecd33a646a74676b97df45fb6", func := "porpoise/porpoiselaw15.CallTells", spec := "callTells", apart := false, narrowed := true }
def CallTellsUptoSaid : Prop := callTellsUptoRow.holds Try.pinned (OpenSpec.upto callTellsSpec)

/-- 'porpoiselaw15.CallOver', WHERE WHAT IT READS IS OF BULK AT MOST 1048576: true; the input reads as it did. -/
def callOverUptoRow : OpenClaim := { program := "ytilpcgipjfegcaa", sum := "d63a6a3cf363f2d320ba8f3b92f7a6d4de767e5ecd33a646a74676b97df45fb6", func := "porpoise/porpoiselaw15.CallOver", spec := "callOver", apart := false, narrowed := true }
def CallOverUptoSaid : Prop := callOverUptoRow.holds Try.pinned (OpenSpec.upto callOverSpec)

/-- 'porpoiselaw15.CallMay', WHERE WHAT IT READS IS OF BULK AT MOST 1048576: true; the input reads as it did. -/
def callMayUptoRow : OpenClaim := { program := "ytilpcgipjfegcaa", sum := "d63a6a3cf363f2d320ba8f3b92f7a6d4de767e5ecd33a646a74676b97df45fb6", func := "porpoise/porpoiselaw15.CallMay", spec := "callMay", apart := false, narrowed := true }
def CallMayUptoSaid : Prop := callMayUptoRow.holds Try.pinned (OpenSpec.upto callMaySpec)

end Rows
end Go.Proofs.Ytilpcgipjfegcaa
