/-
  No cell of these rows narrows 'for every input' (looked for: loops, veiled, ifaces, maps, wideKeys, modest, calm, conditions, laid).
  DERIVED. THE GIVEN ROWS OF THIS SEAT. 6 by the template 'for every input the law returns true; each argument reads behind the call as it read before'; 0 by the template 'total and deterministic' (their statements: YtmpacmjlpkhgoaaTotals.lean).
  GIVEN WITH THE SEED: the statements are not yours to turn. If you find one false, say at which input.
  Laid BY PROGRAM, IN A SANDBOX (cutbox-rows.mjs): the forced cells as the released guide's own fill.sh prints them over the translation 4e0680c1f8761db1… (all of the seat's roots in one cut). By AI agents, Wed Nov 11 2026. No macro, syntax, notation, axiom, sorry.
-/
import Derived.Test.YtmpacmjlpkhgoaaChecked
import GoSem.Claim
import GoSem.ClaimJoined
import GoSem.ClaimMapViews
import Derived.JoinedTies
import Derived.KernelRfl
namespace Go.Proofs.Ytmpacmjlpkhgoaa
/- THE CELL 'sum', in the pinned program and in every row, IS THE sha256 OF THE DUMP (.gsa) THAT YtmpacmjlpkhgoaaProg.lean LOADS. Nothing in Lean hashes anything: it is a label: what it is worth is what the hold of that sum in a sandbox is worth. -/
noncomputable def Try.pinned : Pinned := { name := "ytmpacmjlpkhgoaa", sum := "4e0680c1f8761db1c7c4367a253f6a0c26fb8f25fea4e106a42b05cf0e34de5c", checked := Try.checked }
namespace Rows
def none {H : Type} : Left H := { results := [], args := [] }

/-- 'porpoiselaw11.LatchPlays': WHATEVER THE INPUT: true; the input reads as it did. -/
def latchPlaysSpec : ChangeSpec := { name := "latchPlays", fn := fun _ => fun
  | [d1, d2, d3] => { results := [.lit (.bool true)], args := [d1, d2, d3] }
  | _ => none }
def latchPlaysRow : OpenClaim := { program := "ytmpacmjlpkhgoaa", sum := "4e0680c1f8761db1c7c4367a253f6a0c26fb8f25fea4e106a42b05cf0e34de5c", func := "porpoise/porpoiselaw11.LatchPlays", spec := "latchPlays", apart := false }
def LatchPlaysSaid : Prop := latchPlaysRow.holds Try.pinned (OpenSpec.ofChange latchPlaysSpec)

/-- ITS FALSE NEIGHBOUR: 'it returns false'. Refute it at one input. -/
def latchPlaysWrong : ChangeSpec := { name := "latchPlays", fn := fun _ => fun
  | [d1, d2, d3] => { results := [.lit (.bool false)], args := [d1, d2, d3] }
  | _ => none }
def LatchPlaysWrongFalsely : Prop := latchPlaysRow.holds Try.pinned (OpenSpec.ofChange latchPlaysWrong)

/-- 'porpoiselaw11.LatchOnce': WHATEVER THE INPUT: true; the input reads as it did. -/
def latchOnceSpec : ChangeSpec := { name := "latchOnce", fn := fun _ => fun
  | [d] => { results := [.lit (.bool true)], args := [d] }
  | _ => none }
def latchOnceRow : OpenClaim := { program := "ytmpacmjlpkhgoaa", sum := "4e0680c1f8761db1c7c4367a253f6a0c26fb8f25fea4e106a42b05cf0e34de5c", func := "porpoise/porpoiselaw11.LatchOnce", spec := "latchOnce", apart := false }
def LatchOnceSaid : Prop := latchOnceRow.holds Try.pinned (OpenSpec.ofChange latchOnceSpec)

/-- ITS FALSE NEIGHBOUR: 'it returns false'. Refute it at one input. -/
def latchOnceWrong : ChangeSpec := { name := "latchOnce", fn := fun _ => fun
  | [d] => { results := [.lit (.bool false)], args := [d] }
  | _ => none }
def LatchOnceWrongFalsely : Prop := latchOnceRow.holds Try.pinned (OpenSpec.ofChange latchOnceWrong)

/-- 'porpoiselaw11.LatchStays': WHATEVER THE INPUT: true; the input reads as it did. -/
def latchStaysSpec : ChangeSpec := { name := "latchStays", fn := fun _ => fun
  | [d1, d2] => { results := [.lit (.bool true)], args := [d1, d2] }
  | _ => none }
def latchStaysRow : OpenClaim := { program := "ytmpacmjlpkhgoaa", sum := "4e0680c1f8761db1c7c4367a253f6a0c26fb8f25fea4e106a42b05cf0e34de5c", func := "porpoise/porpoiselaw11.LatchStays", spec := "latchStays", apart := false }
def LatchStaysSaid : Prop := latchStaysRow.holds Try.pinned (OpenSpec.ofChange latchStaysSpec)

/-- ITS FALSE NEIGHBOUR: 'it returns false'. Refute it at one input. -/
def latchStaysWrong : ChangeSpec := { name := "latchStays", fn := fun _ => fun
  | [d1, d2] => { results := [.lit (.bool false)], args := [d1, d2] }
  | _ => none }
def LatchStaysWrongFalsely : Prop := latchStaysRow.holds Try.pinned (OpenSpec.ofChange latchStaysWrong)

/-- 'porpoiselaw11.LatchFirst': WHATEVER THE INPUT: true; the input reads as it did. -/
def latchFirstSpec : ChangeSpec := { name := "latchFirst", fn := fun _ => fun
  | [d1, d2] => { results := [.lit (.bool true)], args := [d1, d2] }
  | _ => none }
def latchFirstRow : OpenClaim := { program := "ytmpacmjlpkhgoaa", sum := "4e0680c1f8761db1c7c4367a253f6a0c26fb8f25fea4e106a42b05cf0e34de5c", func := "porpoise/porpoiselaw11.LatchFirst", spec := "latchFirst", apart := false }
def LatchFirstSaid : Prop := latchFirstRow.holds Try.pinned (OpenSpec.ofChange latchFirstSpec)

/-- ITS FALSE NEIGHBOUR: 'it returns false'. Refute it at one input. -/
def latchFirstWrong : ChangeSpec := { name := "latchFirst", fn := fun _ => fun
  | [d1, d2] => { results := [.lit (.bool false)], args := [d1, d2] }
  | _ => none }
def LatchFirstWrongFalsely : Prop := latchFirstRow.holds Try.pinned (OpenSpec.ofChange latchFirstWrong)

/-- 'porpoiselaw11.LatchMay': WHATEVER THE INPUT: true; the input reads as it did. -/
def latchMaySpec : ChangeSpec := { name := "latchMay", fn := fun _ => fun
  | [d] => { results := [.lit (.bool true)], args := [d] }
  | _ => none }
def latchMayRow : OpenClaim := { program := "ytmpacmjlpkhgoaa", sum := "4e0680c1f8761db1c7c4367a253f6a0c26fb8f25fea4e106a42b05cf0e34de5c", func := "porpoise/porpoiselaw11.LatchMay", spec := "latchMay", apart := false }
def LatchMaySaid : Prop := latchMayRow.holds Try.pinned (OpenSpec.ofChange latchMaySpec)

/-- ITS FALSE NEIGHBOUR: 'it returns false'. Refute it at one input. -/
def latchMayWrong : ChangeSpec := { name := "latchMay", fn := fun _ => fun
  | [d] => { results := [.lit (.bool false)], args := [d] }
  | _ => none }
def LatchMayWrongFalsely : Prop := latchMayRow.holds Try.pinned (OpenSpec.ofChange latchMayWrong)

/-- 'porpoiselaw11.LatchNobody': WHATEVER THE INPUT: true; the input reads as it did. -/
def latchNobodySpec : ChangeSpec := { name := "latchNobody", fn := fun _ => fun
  | [d1, d2] => { results := [.lit (.bool true)], args := [d1, d2] }
  | _ => none }
def latchNobodyRow : OpenClaim := { program := "ytmpacmjlpkhgoaa", sum := "4e0680c1f8761db1c7c4367a253f6a0c26fb8f25fea4e106a42b05cf0e34de5c", func := "porpoise/porpoiselaw11.LatchNobody", spec := "latchNobody", apart := false }
def LatchNobodySaid : Prop := latchNobodyRow.holds Try.pinned (OpenSpec.ofChange latchNobodySpec)

/-- ITS FALSE NEIGHBOUR: 'it returns false'. Refute it at one input. -/
def latchNobodyWrong : ChangeSpec := { name := "latchNobody", fn := fun _ => fun
  | [d1, d2] => { results := [.lit (.bool false)], args := [d1, d2] }
  | _ => none }
def LatchNobodyWrongFalsely : Prop := latchNobodyRow.holds Try.pinned (OpenSpec.ofChange latchNobodyWrong)

/- THE SECOND FORM. 'bulk': how many values and letters a reading holds, each counted each time it is reached (what is shared counts as often as it is met; a slice's spare places count too). A statement '..UptoSaid' is the law's where the arguments, and the package variables that the reading takes, are together of bulk at most 1048576: NARROWER than '..Said'. Prove '..Said' where nothing that the law and all that it calls make is longer than what came in: it says more and counts as full. Else prove '..UptoSaid'. A law counts once. -/
mutual
def uptoBulk {H : Type} : DataW H → Nat
  | .lit (.string bytes) => bytes.length + 1
  | .lit _ => 1
  | .nil => 1
  | .ptr d => uptoBulk d + 1
  | .slice elems spare => uptoBulkAll elems + uptoBulkAll spare + 1
  | .agg parts => uptoBulkAll parts + 1
  | .iface _ d => uptoBulk d + 1
  | .map entries => uptoBulkEntries entries + 1
  | .held _ => 1
def uptoBulkAll {H : Type} : List (DataW H) → Nat
  | [] => 0
  | d :: r => uptoBulk d + uptoBulkAll r
def uptoBulkEntries {H : Type} : List (Lit × DataW H) → Nat
  | [] => 0
  | x :: r => uptoBulkEntry x + uptoBulkEntries r
def uptoBulkEntry {H : Type} : Lit × DataW H → Nat
  | (.string bytes, d) => bytes.length + uptoBulk d + 1
  | (_, d) => uptoBulk d + 1
 end
def uptoSmall : (H : Type) → List (DataW H) → Bool := fun _ ds => decide (uptoBulkAll ds ≤ 1048576)
def OpenSpec.upto (s : _root_.Go.ChangeSpec) : _root_.Go.OpenSpec := { _root_.Go.OpenSpec.ofChange s with cond := some uptoSmall }

/-- 'porpoiselaw11.LatchPlays', WHERE WHAT IT READS IS OF BULK AT MOST 1048576: true; the input reads as it did. -/
def latchPlaysUptoRow : OpenClaim := { program := "ytmpacmjlpkhgoaa", sum := "4e0680c1f8761db1c7c4367a253f6a0c26fb8f25fea4e106a42b05cf0e34de5c", func := "porpoise/porpoiselaw11.LatchPlays", spec := "latchPlays", apart := false, narrowed := true }
def LatchPlaysUptoSaid : Prop := latchPlaysUptoRow.holds Try.pinned (OpenSpec.upto latchPlaysSpec)

/-- 'porpoiselaw11.LatchOnce', WHERE WHAT IT READS IS OF BULK AT MOST 1048576: true; the input reads as it did. -/
def latchOnceUptoRow : OpenClaim := { program := "ytmpacmjlpkhgoaa", sum := "4e0680c1f8761db1c7c4367a253f6a0c26fb8f25fea4e106a42b05cf0e34de5c", func := "porpoise/porpoiselaw11.LatchOnce", spec := "latchOnce", apart := false, narrowed := true }
def LatchOnceUptoSaid : Prop := latchOnceUptoRow.holds Try.pinned (OpenSpec.upto latchOnceSpec)

/-- 'porpoiselaw11.LatchStays', WHERE WHAT IT READS IS OF BULK AT MOST 1048576: true; the input reads as it did. -/
def latchStaysUptoRow : OpenClaim := { program := "ytmpacmjlpkhgoaa", sum := "4e0680c1f8761db1c7c4367a253f6a0c26fb8f25fea4e106a42b05cf0e34de5c", func := "porpoise/porpoiselaw11.LatchStays", spec := "latchStays", apart := false, narrowed := true }
def LatchStaysUptoSaid : Prop := latchStaysUptoRow.holds Try.pinned (OpenSpec.upto latchStaysSpec)

/-- 'porpoiselaw11.LatchFirst', WHERE WHAT IT READS IS OF BULK AT MOST 1048576: true; the input reads as it did. -/
def latchFirstUptoRow : OpenClaim := { program := "ytmpacmjlpkhgoaa", sum := "4e0680c1f8761db1c7c4367a253f6a0c26fb8f25fea4e106a42b05cf0e34de5c", func := "porpoise/porpoiselaw11.LatchFirst", spec := "latchFirst", apart := false, narrowed := true }
def LatchFirstUptoSaid : Prop := latchFirstUptoRow.holds Try.pinned (OpenSpec.upto latchFirstSpec)

/-- 'porpoiselaw11.LatchMay', WHERE WHAT IT READS IS OF BULK AT MOST 1048576: true; the input reads as it did. -/
def latchMayUptoRow : OpenClaim := { program := "ytmpacmjlpkhgoaa", sum := "4e0680c1f8761db1c7c4367a253f6a0c26fb8f25fea4e106a42b05cf0e34de5c", func := "porpoise/porpoiselaw11.LatchMay", spec := "latchMay", apart := false, narrowed := true }
def LatchMayUptoSaid : Prop := latchMayUptoRow.holds Try.pinned (OpenSpec.upto latchMaySpec)

/-- 'porpoiselaw11.LatchNobody', WHERE WHAT IT READS IS OF BULK AT MOST 1048576: true; the input reads as it did. -/
def latchNobodyUptoRow : OpenClaim := { program := "ytmpacmjlpkhgoaa", sum := "4e0680c1f8761db1c7c4367a253f6a0c26fb8f25fea4e106a42b05cf0e34de5c", func := "porpoise/porpoiselaw11.LatchNobody", spec := "latchNobody", apart := false, narrowed := true }
def LatchNobodyUptoSaid : Prop := latchNobodyUptoRow.holds Try.pinned (OpenSpec.upto latchNobodySpec)

end Rows
end Go.Proofs.Ytmpacmjlpkhgoaa
