/-
  No cell of these rows narrows 'for every input' (looked for: loops, veiled, ifaces, maps, wideKeys, modest, calm, conditions, laid).
  DERIVED. THE GIVEN ROWS OF THIS SEAT. 6 by the template 'for every input the law returns true; each argument reads behind the call as it read before'; 0 by the template 'total and deterministic' (their statements: YtnpecnljibeddaaTotals.lean).
  GIVEN WITH THE SEED: the statements are not yours to turn. If you find one false, say at which input.
  Laid BY PROGRAM, IN A SANDBOX (cutbox-rows.mjs): the forced cells as the released guide's own fill.sh prints them over the translation b4a23fd370ac2966… (all of the seat's roots in one cut). By AI agents, Wed Nov 11 2026. No macro, syntax, notation, axiom, sorry.
-/
import Derived.Test.YtnpecnljibeddaaChecked
import GoSem.Claim
import GoSem.ClaimJoined
import GoSem.ClaimMapViews
import Derived.JoinedTies
import Derived.KernelRfl
namespace Go.Proofs.Ytnpecnljibeddaa
/- THE CELL 'sum', in the pinned program and in every row, IS THE sha256 OF THE DUMP (.gsa) THAT YtnpecnljibeddaaProg.lean LOADS. Nothing in Lean hashes anything: it is a label: what it is worth is what the hold of that sum in a sandbox is worth. -/
noncomputable def Try.pinned : Pinned := { name := "ytnpecnljibeddaa", sum := "b4a23fd370ac2966a9ac5f1df8921397d52cb705c3a46a674d72cee3086a5ff1", checked := Try.checked }
namespace Rows
def none {H : Type} : Left H := { results := [], args := [] }

/-- 'porpoiselaw14.CollPlays': WHATEVER THE INPUT: true; the input reads as it did. -/
def collPlaysSpec : ChangeSpec := { name := "collPlays", fn := fun _ => fun
  | [d1, d2, d3] => { results := [.lit (.bool true)], args := [d1, d2, d3] }
  | _ => none }
def collPlaysRow : OpenClaim := { program := "ytnpecnljibeddaa", sum := "b4a23fd370ac2966a9ac5f1df8921397d52cb705c3a46a674d72cee3086a5ff1", func := "porpoise/porpoiselaw14.CollPlays", spec := "collPlays", apart := false }
def CollPlaysSaid : Prop := collPlaysRow.holds Try.pinned (OpenSpec.ofChange collPlaysSpec)

/-- ITS FALSE NEIGHBOUR: 'it returns false'. Refute it at one input. -/
def collPlaysWrong : ChangeSpec := { name := "collPlays", fn := fun _ => fun
  | [d1, d2, d3] => { results := [.lit (.bool false)], args := [d1, d2, d3] }
  | _ => none }
def CollPlaysWrongFalsely : Prop := collPlaysRow.holds Try.pinned (OpenSpec.ofChange collPlaysWrong)

/-- 'porpoiselaw14.CollOnce': WHATEVER THE INPUT: true; the input reads as it did. -/
def collOnceSpec : ChangeSpec := { name := "collOnce", fn := fun _ => fun
  | [d1, d2] => { results := [.lit (.bool true)], args := [d1, d2] }
  | _ => none }
def collOnceRow : OpenClaim := { program := "ytnpecnljibeddaa", sum := "b4a23fd370ac2966a9ac5f1df8921397d52cb705c3a46a674d72cee3086a5ff1", func := "porpoise/porpoiselaw14.CollOnce", spec := "collOnce", apart := false }
def CollOnceSaid : Prop := collOnceRow.holds Try.pinned (OpenSpec.ofChange collOnceSpec)

/-- ITS FALSE NEIGHBOUR: 'it returns false'. Refute it at one input. -/
def collOnceWrong : ChangeSpec := { name := "collOnce", fn := fun _ => fun
  | [d1, d2] => { results := [.lit (.bool false)], args := [d1, d2] }
  | _ => none }
def CollOnceWrongFalsely : Prop := collOnceRow.holds Try.pinned (OpenSpec.ofChange collOnceWrong)

/-- 'porpoiselaw14.CollWindow': WHATEVER THE INPUT: true; the input reads as it did. -/
def collWindowSpec : ChangeSpec := { name := "collWindow", fn := fun _ => fun
  | [d1, d2, d3] => { results := [.lit (.bool true)], args := [d1, d2, d3] }
  | _ => none }
def collWindowRow : OpenClaim := { program := "ytnpecnljibeddaa", sum := "b4a23fd370ac2966a9ac5f1df8921397d52cb705c3a46a674d72cee3086a5ff1", func := "porpoise/porpoiselaw14.CollWindow", spec := "collWindow", apart := false }
def CollWindowSaid : Prop := collWindowRow.holds Try.pinned (OpenSpec.ofChange collWindowSpec)

/-- ITS FALSE NEIGHBOUR: 'it returns false'. Refute it at one input. -/
def collWindowWrong : ChangeSpec := { name := "collWindow", fn := fun _ => fun
  | [d1, d2, d3] => { results := [.lit (.bool false)], args := [d1, d2, d3] }
  | _ => none }
def CollWindowWrongFalsely : Prop := collWindowRow.holds Try.pinned (OpenSpec.ofChange collWindowWrong)

/-- 'porpoiselaw14.CollFull': WHATEVER THE INPUT: true; the input reads as it did. -/
def collFullSpec : ChangeSpec := { name := "collFull", fn := fun _ => fun
  | [d1, d2] => { results := [.lit (.bool true)], args := [d1, d2] }
  | _ => none }
def collFullRow : OpenClaim := { program := "ytnpecnljibeddaa", sum := "b4a23fd370ac2966a9ac5f1df8921397d52cb705c3a46a674d72cee3086a5ff1", func := "porpoise/porpoiselaw14.CollFull", spec := "collFull", apart := false }
def CollFullSaid : Prop := collFullRow.holds Try.pinned (OpenSpec.ofChange collFullSpec)

/-- ITS FALSE NEIGHBOUR: 'it returns false'. Refute it at one input. -/
def collFullWrong : ChangeSpec := { name := "collFull", fn := fun _ => fun
  | [d1, d2] => { results := [.lit (.bool false)], args := [d1, d2] }
  | _ => none }
def CollFullWrongFalsely : Prop := collFullRow.holds Try.pinned (OpenSpec.ofChange collFullWrong)

/-- 'porpoiselaw14.CollOne': WHATEVER THE INPUT: true; the input reads as it did. -/
def collOneSpec : ChangeSpec := { name := "collOne", fn := fun _ => fun
  | [d] => { results := [.lit (.bool true)], args := [d] }
  | _ => none }
def collOneRow : OpenClaim := { program := "ytnpecnljibeddaa", sum := "b4a23fd370ac2966a9ac5f1df8921397d52cb705c3a46a674d72cee3086a5ff1", func := "porpoise/porpoiselaw14.CollOne", spec := "collOne", apart := false }
def CollOneSaid : Prop := collOneRow.holds Try.pinned (OpenSpec.ofChange collOneSpec)

/-- ITS FALSE NEIGHBOUR: 'it returns false'. Refute it at one input. -/
def collOneWrong : ChangeSpec := { name := "collOne", fn := fun _ => fun
  | [d] => { results := [.lit (.bool false)], args := [d] }
  | _ => none }
def CollOneWrongFalsely : Prop := collOneRow.holds Try.pinned (OpenSpec.ofChange collOneWrong)

/-- 'porpoiselaw14.CollNobody': WHATEVER THE INPUT: true; the input reads as it did. -/
def collNobodySpec : ChangeSpec := { name := "collNobody", fn := fun _ => fun
  | [d1, d2, d3] => { results := [.lit (.bool true)], args := [d1, d2, d3] }
  | _ => none }
def collNobodyRow : OpenClaim := { program := "ytnpecnljibeddaa", sum := "b4a23fd370ac2966a9ac5f1df8921397d52cb705c3a46a674d72cee3086a5ff1", func := "porpoise/porpoiselaw14.CollNobody", spec := "collNobody", apart := false }
def CollNobodySaid : Prop := collNobodyRow.holds Try.pinned (OpenSpec.ofChange collNobodySpec)

/-- ITS FALSE NEIGHBOUR: 'it returns false'. Refute it at one input. -/
def collNobodyWrong : ChangeSpec := { name := "collNobody", fn := fun _ => fun
  | [d1, d2, d3] => { results := [.lit (.bool false)], args := [d1, d2, d3] }
  | _ => none }
def CollNobodyWrongFalsely : Prop := collNobodyRow.holds Try.pinned (OpenSpec.ofChange collNobodyWrong)

/- THE SECOND FORM. 'bulk': how many values and letters a reading holds, each counted each time it is reached (what is shared counts as often as it is met; a slice's spare places count too). A statement '..UptoSaid' is the law's where the arguments, and the package variables that the reading takes, are together of bulk at most 1048576: NARROWER than '..Said'. Prove '..Said' where nothing that the law and all that it calls make is longer than what came in: it says more and counts as full. Else prove '..UptoSaid'. A law counts once. -/
mutual
def uptoBulk {H : Type} : DataW H → Nat
  | .lit (.string bytes) => bytes.length + 1
  | .lit _ => 1
  | .nil => 1
  | .ptr d => uptoBulk d + 1
  | .slice elems spare => uptoBulkAll elems + uptoBulkAll spare + 1
  | .agg parts => uptoBulkAll parts + 1
  | .iface _ d => uptoBulk d + 1
  | .map entries => uptoBulkEntries entries + 1
  | .held _ => 1
def uptoBulkAll {H : Type} : List (DataW H) → Nat
  | [] => 0
  | d :: r => uptoBulk d + uptoBulkAll r
def uptoBulkEntries {H : Type} : List (Lit × DataW H) → Nat
  | [] => 0
  | x :: r => uptoBulkEntry x + uptoBulkEntries r
def uptoBulkEntry {H : Type} : Lit × DataW H → Nat
  | (.string bytes, d) => bytes.length + uptoBulk d + 1
  | (_, d) => uptoBulk d + 1
 end
def uptoSmall : (H : Type) → List (DataW H) → Bool := fun _ ds => decide (uptoBulkAll ds ≤ 1048576)
def OpenSpec.upto (s : _root_.Go.ChangeSpec) : _root_.Go.OpenSpec := { _root_.Go.OpenSpec.ofChange s with cond := some uptoSmall }

/-- 'porpoiselaw14.CollPlays', WHERE WHAT IT READS IS OF BULK AT MOST 1048576: true; the input reads as it did. -/
def collPlaysUptoRow : OpenClaim := { program := "ytnpecnljibeddaa", sum := "b4a23fd370ac2966a9ac5f1df8921397d52cb705c3a46a674d72cee3086a5ff1", func := "porpoise/porpoiselaw14.CollPlays", spec := "collPlays", apart := false, narrowed := true }
def CollPlaysUptoSaid : Prop := collPlaysUptoRow.holds Try.pinned (OpenSpec.upto collPlaysSpec)

/-- 'porpoiselaw14.CollOnce', WHERE WHAT IT READS IS OF BULK AT MOST 1048576: true; the input reads as it did. -/
def collOnceUptoRow : OpenClaim := { program := "ytnpecnljibeddaa", sum := "b4a23fd370ac2966a9ac5f1df8921397d52cb705c3a46a674d72cee3086a5ff1", func := "porpoise/porpoiselaw14.CollOnce", spec := "collOnce", apart := false, narrowed := true }
def CollOnceUptoSaid : Prop := collOnceUptoRow.holds Try.pinned (OpenSpec.upto collOnceSpec)

/-- 'porpoiselaw14.CollWindow', WHERE WHAT IT READS IS OF BULK AT MOST 1048576: true; the input reads as it did. -/
def collWindowUptoRow : OpenClaim := { program := "ytnpecnljibeddaa", sum := "b4a23fd370ac2966a9ac5f1df8921397d52cb705c3a46a674d72cee3086a5ff1", func := "porpoise/porpoiselaw14.CollWindow", spec := "collWindow", apart := false, narrowed := true }
def CollWindowUptoSaid : Prop := collWindowUptoRow.holds Try.pinned (OpenSpec.upto collWindowSpec)

/-- 'porpoiselaw14.CollFull', WHERE WHAT IT READS IS OF BULK AT MOST 1048576: true; the input reads as it did. -/
def collFullUptoRow : OpenClaim := { program := "ytnpecnljibeddaa", sum := "b4a23fd370ac2966a9ac5f1df8921397d52cb705c3a46a674d72cee3086a5ff1", func := "porpoise/porpoiselaw14.CollFull", spec := "collFull", apart := false, narrowed := true }
def CollFullUptoSaid : Prop := collFullUptoRow.holds Try.pinned (OpenSpec.upto collFullSpec)

/-- 'porpoiselaw14.CollOne', WHERE WHAT IT READS IS OF BULK AT MOST 1048576: true; the input reads as it did. -/
def collOneUptoRow : OpenClaim := { program := "ytnpecnljibeddaa", sum := "b4a23fd370ac2966a9ac5f1df8921397d52cb705c3a46a674d72cee3086a5ff1", func := "porpoise/porpoiselaw14.CollOne", spec := "collOne", apart := false, narrowed := true }
def CollOneUptoSaid : Prop := collOneUptoRow.holds Try.pinned (OpenSpec.upto collOneSpec)

/-- 'porpoiselaw14.CollNobody', WHERE WHAT IT READS IS OF BULK AT MOST 1048576: true; the input reads as it did. -/
def collNobodyUptoRow : OpenClaim := { program := "ytnpecnljibeddaa", sum := "b4a23fd370ac2966a9ac5f1df8921397d52cb705c3a46a674d72cee3086a5ff1", func := "porpoise/porpoiselaw14.CollNobody", spec := "collNobody", apart := false, narrowed := true }
def CollNobodyUptoSaid : Prop := collNobodyUptoRow.holds Try.pinned (OpenSpec.upto collNobodySpec)

end Rows
end Go.Proofs.Ytnpecnljibeddaa
