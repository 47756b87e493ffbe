/-
  No cell of these rows narrows 'for every input' (looked for: loops, veiled, ifaces, maps, wideKeys, modest, calm, conditions, laid).
  DERIVED. THE GIVEN ROWS OF THIS SEAT. 6 by the template 'for every input the law returns true; each argument reads behind the call as it read before'; 0 by the template 'total and deterministic' (their statements: YtdfnhbhcgkdplaaTotals.lean).
  GIVEN WITH THE SEED: the statements are not yours to turn. If you find one false, say at which input.
  Laid BY PROGRAM, IN A SANDBOX (cutbox-rows.mjs): the forced cells as the released guide's own fill.sh prints them over the translation 771163e2cfd4bf5f… (all of the seat's roots in one cut). By AI agents, Wed Nov 11 2026. No macro, syntax, notation, axiom, sorry.
-/
import Derived.Test.YtdfnhbhcgkdplaaChecked
import GoSem.Claim
import GoSem.ClaimJoined
import GoSem.ClaimMapViews
import Derived.JoinedTies
import Derived.KernelRfl
namespace Go.Proofs.Ytdfnhbhcgkdplaa
/- THE CELL 'sum', in the pinned program and in every row, IS THE sha256 OF THE DUMP (.gsa) THAT YtdfnhbhcgkdplaaProg.lean LOADS. Nothing in Lean hashes anything: it is a label: what it is worth is what the hold of that sum in a sandbox is worth. -/
noncomputable def Try.pinned : Pinned := { name := "ytdfnhbhcgkdplaa", sum := "771163e2cfd4bf5f815b181ac98afd2d1a54fced770bea292d87fac44a258f35", checked := Try.checked }
namespace Rows
def none {H : Type} : Left H := { results := [], args := [] }

/-- 'porpoiselaw13.BatchTells': WHATEVER THE INPUT: true; the input reads as it did. -/
def batchTellsSpec : ChangeSpec := { name := "batchTells", fn := fun _ => fun
  | [d1, d2, d3] => { results := [.lit (.bool true)], args := [d1, d2, d3] }
  | _ => none }
def batchTellsRow : OpenClaim := { program := "ytdfnhbhcgkdplaa", sum := "771163e2cfd4bf5f815b181ac98afd2d1a54fced770bea292d87fac44a258f35", func := "porpoise/porpoiselaw13.BatchTells", spec := "batchTells", apart := false }
def BatchTellsSaid : Prop := batchTellsRow.holds Try.pinned (OpenSpec.ofChange batchTellsSpec)

/-- ITS FALSE NEIGHBOUR: 'it returns false'. Refute it at one input. -/
def batchTellsWrong : ChangeSpec := { name := "batchTells", fn := fun _ => fun
  | [d1, d2, d3] => { results := [.lit (.bool false)], args := [d1, d2, d3] }
  | _ => none }
def BatchTellsWrongFalsely : Prop := batchTellsRow.holds Try.pinned (OpenSpec.ofChange batchTellsWrong)

/-- 'porpoiselaw13.BatchOwn': WHATEVER THE INPUT: true; the input reads as it did. -/
def batchOwnSpec : ChangeSpec := { name := "batchOwn", fn := fun _ => fun
  | [d1, d2] => { results := [.lit (.bool true)], args := [d1, d2] }
  | _ => none }
def batchOwnRow : OpenClaim := { program := "ytdfnhbhcgkdplaa", sum := "771163e2cfd4bf5f815b181ac98afd2d1a54fced770bea292d87fac44a258f35", func := "porpoise/porpoiselaw13.BatchOwn", spec := "batchOwn", apart := false }
def BatchOwnSaid : Prop := batchOwnRow.holds Try.pinned (OpenSpec.ofChange batchOwnSpec)

/-- ITS FALSE NEIGHBOUR: 'it returns false'. Refute it at one input. -/
def batchOwnWrong : ChangeSpec := { name := "batchOwn", fn := fun _ => fun
  | [d1, d2] => { results := [.lit (.bool false)], args := [d1, d2] }
  | _ => none }
def BatchOwnWrongFalsely : Prop := batchOwnRow.holds Try.pinned (OpenSpec.ofChange batchOwnWrong)

/-- 'porpoiselaw13.BatchRoom': WHATEVER THE INPUT: true; the input reads as it did. -/
def batchRoomSpec : ChangeSpec := { name := "batchRoom", fn := fun _ => fun
  | [d1, d2, d3] => { results := [.lit (.bool true)], args := [d1, d2, d3] }
  | _ => none }
def batchRoomRow : OpenClaim := { program := "ytdfnhbhcgkdplaa", sum := "771163e2cfd4bf5f815b181ac98afd2d1a54fced770bea292d87fac44a258f35", func := "porpoise/porpoiselaw13.BatchRoom", spec := "batchRoom", apart := false }
def BatchRoomSaid : Prop := batchRoomRow.holds Try.pinned (OpenSpec.ofChange batchRoomSpec)

/-- ITS FALSE NEIGHBOUR: 'it returns false'. Refute it at one input. -/
def batchRoomWrong : ChangeSpec := { name := "batchRoom", fn := fun _ => fun
  | [d1, d2, d3] => { results := [.lit (.bool false)], args := [d1, d2, d3] }
  | _ => none }
def BatchRoomWrongFalsely : Prop := batchRoomRow.holds Try.pinned (OpenSpec.ofChange batchRoomWrong)

/-- 'porpoiselaw13.BatchSplit': WHATEVER THE INPUT: true; the input reads as it did. -/
def batchSplitSpec : ChangeSpec := { name := "batchSplit", fn := fun _ => fun
  | [d1, d2] => { results := [.lit (.bool true)], args := [d1, d2] }
  | _ => none }
def batchSplitRow : OpenClaim := { program := "ytdfnhbhcgkdplaa", sum := "771163e2cfd4bf5f815b181ac98afd2d1a54fced770bea292d87fac44a258f35", func := "porpoise/porpoiselaw13.BatchSplit", spec := "batchSplit", apart := false }
def BatchSplitSaid : Prop := batchSplitRow.holds Try.pinned (OpenSpec.ofChange batchSplitSpec)

/-- ITS FALSE NEIGHBOUR: 'it returns false'. Refute it at one input. -/
def batchSplitWrong : ChangeSpec := { name := "batchSplit", fn := fun _ => fun
  | [d1, d2] => { results := [.lit (.bool false)], args := [d1, d2] }
  | _ => none }
def BatchSplitWrongFalsely : Prop := batchSplitRow.holds Try.pinned (OpenSpec.ofChange batchSplitWrong)

/-- 'porpoiselaw13.BatchApart': WHATEVER THE INPUT: true; the input reads as it did. -/
def batchApartSpec : ChangeSpec := { name := "batchApart", fn := fun _ => fun
  | [d1, d2, d3] => { results := [.lit (.bool true)], args := [d1, d2, d3] }
  | _ => none }
def batchApartRow : OpenClaim := { program := "ytdfnhbhcgkdplaa", sum := "771163e2cfd4bf5f815b181ac98afd2d1a54fced770bea292d87fac44a258f35", func := "porpoise/porpoiselaw13.BatchApart", spec := "batchApart", apart := false }
def BatchApartSaid : Prop := batchApartRow.holds Try.pinned (OpenSpec.ofChange batchApartSpec)

/-- ITS FALSE NEIGHBOUR: 'it returns false'. Refute it at one input. -/
def batchApartWrong : ChangeSpec := { name := "batchApart", fn := fun _ => fun
  | [d1, d2, d3] => { results := [.lit (.bool false)], args := [d1, d2, d3] }
  | _ => none }
def BatchApartWrongFalsely : Prop := batchApartRow.holds Try.pinned (OpenSpec.ofChange batchApartWrong)

/-- 'porpoiselaw13.BatchLead': WHATEVER THE INPUT: true; the input reads as it did. -/
def batchLeadSpec : ChangeSpec := { name := "batchLead", fn := fun _ => fun
  | [d1, d2] => { results := [.lit (.bool true)], args := [d1, d2] }
  | _ => none }
def batchLeadRow : OpenClaim := { program := "ytdfnhbhcgkdplaa", sum := "771163e2cfd4bf5f815b181ac98afd2d1a54fced770bea292d87fac44a258f35", func := "porpoise/porpoiselaw13.BatchLead", spec := "batchLead", apart := false }
def BatchLeadSaid : Prop := batchLeadRow.holds Try.pinned (OpenSpec.ofChange batchLeadSpec)

/-- ITS FALSE NEIGHBOUR: 'it returns false'. Refute it at one input. -/
def batchLeadWrong : ChangeSpec := { name := "batchLead", fn := fun _ => fun
  | [d1, d2] => { results := [.lit (.bool false)], args := [d1, d2] }
  | _ => none }
def BatchLeadWrongFalsely : Prop := batchLeadRow.holds Try.pinned (OpenSpec.ofChange batchLeadWrong)

/- THE SECOND FORM. 'bulk': how many values and letters a reading holds, each counted each time it is reached (what is shared counts as often as it is met; a slice's spare places count too). A statement '..UptoSaid' is the law's where the arguments, and the package variables that the reading takes, are together of bulk at most 1048576: NARROWER than '..Said'. Prove '..Said' where nothing that the law and all that it calls make is longer than what came in: it says more and counts as full. Else prove '..UptoSaid'. A law counts once. -/
mutual
def uptoBulk {H : Type} : DataW H → Nat
  | .lit (.string bytes) => bytes.length + 1
  | .lit _ => 1
  | .nil => 1
  | .ptr d => uptoBulk d + 1
  | .slice elems spare => uptoBulkAll elems + uptoBulkAll spare + 1
  | .agg parts => uptoBulkAll parts + 1
  | .iface _ d => uptoBulk d + 1
  | .map entries => uptoBulkEntries entries + 1
  | .held _ => 1
def uptoBulkAll {H : Type} : List (DataW H) → Nat
  | [] => 0
  | d :: r => uptoBulk d + uptoBulkAll r
def uptoBulkEntries {H : Type} : List (Lit × DataW H) → Nat
  | [] => 0
  | x :: r => uptoBulkEntry x + uptoBulkEntries r
def uptoBulkEntry {H : Type} : Lit × DataW H → Nat
  | (.string bytes, d) => bytes.length + uptoBulk d + 1
  | (_, d) => uptoBulk d + 1
 end
def uptoSmall : (H : Type) → List (DataW H) → Bool := fun _ ds => decide (uptoBulkAll ds ≤ 1048576)
def OpenSpec.upto (s : _root_.Go.ChangeSpec) : _root_.Go.OpenSpec := { _root_.Go.OpenSpec.ofChange s with cond := some uptoSmall }

/-- 'porpoiselaw13.BatchTells', WHERE WHAT IT READS IS OF BULK AT MOST 1048576: true; the input reads as it did. -/
def batchTellsUptoRow : OpenClaim := { program := "ytdfnhbhcgkdplaa", sum := "771163e2cfd4bf5f815b181ac98afd2d1a54fced770bea292d87fac44a258f35", func := "porpoise/porpoiselaw13.BatchTells", spec := "batchTells", apart := false, narrowed := true }
def BatchTellsUptoSaid : Prop := batchTellsUptoRow.holds Try.pinned (OpenSpec.upto batchTellsSpec)

/-- 'porpoiselaw13.BatchOwn', WHERE WHAT IT READS IS OF BULK AT MOST 1048576: true; the input reads as it did. -/
def batchOwnUptoRow : OpenClaim := { program := "ytdfnhbhcgkdplaa", sum := "771163e2cfd4bf5f815b181ac98afd2d1a54fced770bea292d87fac44a258f35", func := "porpoise/porpoiselaw13.BatchOwn", spec := "batchOwn", apart := false, narrowed := true }
def BatchOwnUptoSaid : Prop := batchOwnUptoRow.holds Try.pinned (OpenSpec.upto batchOwnSpec)

/-- 'porpoiselaw13.BatchRoom', WHERE WHAT IT READS IS OF BULK AT MOST 1048576: true; the input reads as it did. -/
def batchRoomUptoRow : OpenClaim := { program := "ytdfnhbhcgkdplaa", sum := "771163e2cfd4bf5f815b181ac98afd2d1a54fced770bea292d87fac44a258f35", func := "porpoise/porpoiselaw13.BatchRoom", spec := "batchRoom", apart := false, narrowed := true }
def BatchRoomUptoSaid : Prop := batchRoomUptoRow.holds Try.pinned (OpenSpec.upto batchRoomSpec)

/-- 'porpoiselaw13.BatchSplit', WHERE WHAT IT READS IS OF BULK AT MOST 1048576: true; the input reads as it did. -/
def batchSplitUptoRow : OpenClaim := { program := "ytdfnhbhcgkdplaa", sum := "771163e2cfd4bf5f815b181ac98afd2d1a54fced770bea292d87fac44a258f35", func := "porpoise/porpoiselaw13.BatchSplit", spec := "batchSplit", apart := false, narrowed := true }
def BatchSplitUptoSaid : Prop := batchSplitUptoRow.holds Try.pinned (OpenSpec.upto batchSplitSpec)

/-- 'porpoiselaw13.BatchApart', WHERE WHAT IT READS IS OF BULK AT MOST 1048576: true; the input reads as it did. -/
def batchApartUptoRow : OpenClaim := { program := "ytdfnhbhcgkdplaa", sum := "771163e2cfd4bf5f815b181ac98afd2d1a54fced770bea292d87fac44a258f35", func := "porpoise/porpoiselaw13.BatchApart", spec := "batchApart", apart := false, narrowed := true }
def BatchApartUptoSaid : Prop := batchApartUptoRow.holds Try.pinned (OpenSpec.upto batchApartSpec)

/-- 'porpoiselaw13.BatchLead', WHERE WHAT IT READS IS OF BULK AT MOST 1048576: true; the input reads as it did. -/
def batchLeadUptoRow : OpenClaim := { program := "ytdfnhbhcgkdplaa", sum := "771163e2cfd4bf5f815b181ac98afd2d1a54fced770bea292d87fac44a258f35", func := "porpoise/porpoiselaw13.BatchLead", spec := "batchLead", apart := false, narrowed := true }
def BatchLeadUptoSaid : Prop := batchLeadUptoRow.holds Try.pinned (OpenSpec.upto batchLeadSpec)

end Rows
end Go.Proofs.Ytdfnhbhcgkdplaa
