/-
  No cell of these rows narrows 'for every input' (looked for: loops, veiled, ifaces, maps, wideKeys, modest, calm, conditions, laid).
  DERIVED. THE GIVEN ROWS OF THIS SEAT. 6 by the template 'for every input the law returns true; each argument reads behind the call as it read before'; 0 by the template 'total and deterministic' (their statements: YtkhdgdbbhbphiaaTotals.lean).
  GIVEN WITH THE SEED: the statements are not yours to turn. If you find one false, say at which input.
  Laid BY PROGRAM, IN A SANDBOX (cutbox-rows.mjs): the forced cells as the released guide's own fill.sh prints them over the translation d3c1e2c8980daa56… (all of the seat's roots in one cut). By AI agents, Wed Nov 11 2026. No macro, syntax, notation, axiom, sorry.
-/
import Derived.Test.YtkhdgdbbhbphiaaChecked
import GoSem.Claim
import GoSem.ClaimJoined
import GoSem.ClaimMapViews
import Derived.JoinedTies
import Derived.KernelRfl
namespace Go.Proofs.Ytkhdgdbbhbphiaa
/- THE CELL 'sum', in the pinned program and in every row, IS THE sha256 OF THE DUMP (.gsa) THAT YtkhdgdbbhbphiaaProg.lean LOADS. Nothing in Lean hashes anything: it is a label: what it is worth is what the hold of that sum in a sandbox is worth. -/
noncomputable def Try.pinned : Pinned := { name := "ytkhdgdbbhbphiaa", sum := "d3c1e2c8980daa5606073ed006d34df02f5c93441c6a5813d56d2728c414b386", checked := Try.checked }
namespace Rows
def none {H : Type} : Left H := { results := [], args := [] }

/-- 'porpoiselaw05.PermitOthers': WHATEVER THE INPUT: true; the input reads as it did. -/
def permitOthersSpec : ChangeSpec := { name := "permitOthers", fn := fun _ => fun
  | [d1, d2, d3] => { results := [.lit (.bool true)], args := [d1, d2, d3] }
  | _ => none }
def permitOthersRow : OpenClaim := { program := "ytkhdgdbbhbphiaa", sum := "d3c1e2c8980daa5606073ed006d34df02f5c93441c6a5813d56d2728c414b386", func := "porpoise/porpoiselaw05.PermitOthers", spec := "permitOthers", plainKeys := false, apart := false }
def PermitOthersSaid : Prop := permitOthersRow.holds Try.pinned (OpenSpec.ofChange permitOthersSpec)

/-- ITS FALSE NEIGHBOUR: 'it returns false'. Refute it at one input. -/
def permitOthersWrong : ChangeSpec := { name := "permitOthers", fn := fun _ => fun
  | [d1, d2, d3] => { results := [.lit (.bool false)], args := [d1, d2, d3] }
  | _ => none }
def PermitOthersWrongFalsely : Prop := permitOthersRow.holds Try.pinned (OpenSpec.ofChange permitOthersWrong)

/-- 'porpoiselaw05.PermitPlays': WHATEVER THE INPUT: true; the input reads as it did. -/
def permitPlaysSpec : ChangeSpec := { name := "permitPlays", fn := fun _ => fun
  | [d1, d2, d3] => { results := [.lit (.bool true)], args := [d1, d2, d3] }
  | _ => none }
def permitPlaysRow : OpenClaim := { program := "ytkhdgdbbhbphiaa", sum := "d3c1e2c8980daa5606073ed006d34df02f5c93441c6a5813d56d2728c414b386", func := "porpoise/porpoiselaw05.PermitPlays", spec := "permitPlays", unfollowed := true, recurses := true, plainKeys := false, apart := false }
def PermitPlaysSaid : Prop := permitPlaysRow.holds Try.pinned (OpenSpec.ofChange permitPlaysSpec)

/-- ITS FALSE NEIGHBOUR: 'it returns false'. Refute it at one input. -/
def permitPlaysWrong : ChangeSpec := { name := "permitPlays", fn := fun _ => fun
  | [d1, d2, d3] => { results := [.lit (.bool false)], args := [d1, d2, d3] }
  | _ => none }
def PermitPlaysWrongFalsely : Prop := permitPlaysRow.holds Try.pinned (OpenSpec.ofChange permitPlaysWrong)

/-- 'porpoiselaw05.PermitBounds': WHATEVER THE INPUT: true; the input reads as it did. -/
def permitBoundsSpec : ChangeSpec := { name := "permitBounds", fn := fun _ => fun
  | [d] => { results := [.lit (.bool true)], args := [d] }
  | _ => none }
def permitBoundsRow : OpenClaim := { program := "ytkhdgdbbhbphiaa", sum := "d3c1e2c8980daa5606073ed006d34df02f5c93441c6a5813d56d2728c414b386", func := "porpoise/porpoiselaw05.PermitBounds", spec := "permitBounds", unfollowed := true, recurses := true, plainKeys := false, apart := false }
def PermitBoundsSaid : Prop := permitBoundsRow.holds Try.pinned (OpenSpec.ofChange permitBoundsSpec)

/-- ITS FALSE NEIGHBOUR: 'it returns false'. Refute it at one input. -/
def permitBoundsWrong : ChangeSpec := { name := "permitBounds", fn := fun _ => fun
  | [d] => { results := [.lit (.bool false)], args := [d] }
  | _ => none }
def PermitBoundsWrongFalsely : Prop := permitBoundsRow.holds Try.pinned (OpenSpec.ofChange permitBoundsWrong)

/-- 'porpoiselaw05.PermitBack': WHATEVER THE INPUT: true; the input reads as it did. -/
def permitBackSpec : ChangeSpec := { name := "permitBack", fn := fun _ => fun
  | [d1, d2] => { results := [.lit (.bool true)], args := [d1, d2] }
  | _ => none }
def permitBackRow : OpenClaim := { program := "ytkhdgdbbhbphiaa", sum := "d3c1e2c8980daa5606073ed006d34df02f5c93441c6a5813d56d2728c414b386", func := "porpoise/porpoiselaw05.PermitBack", spec := "permitBack", unfollowed := true, recurses := true, plainKeys := false, apart := false }
def PermitBackSaid : Prop := permitBackRow.holds Try.pinned (OpenSpec.ofChange permitBackSpec)

/-- ITS FALSE NEIGHBOUR: 'it returns false'. Refute it at one input. -/
def permitBackWrong : ChangeSpec := { name := "permitBack", fn := fun _ => fun
  | [d1, d2] => { results := [.lit (.bool false)], args := [d1, d2] }
  | _ => none }
def PermitBackWrongFalsely : Prop := permitBackRow.holds Try.pinned (OpenSpec.ofChange permitBackWrong)

/-- 'porpoiselaw05.PermitAll': WHATEVER THE INPUT: true; the input reads as it did. -/
def permitAllSpec : ChangeSpec := { name := "permitAll", fn := fun _ => fun
  | [d1, d2] => { results := [.lit (.bool true)], args := [d1, d2] }
  | _ => none }
def permitAllRow : OpenClaim := { program := "ytkhdgdbbhbphiaa", sum := "d3c1e2c8980daa5606073ed006d34df02f5c93441c6a5813d56d2728c414b386", func := "porpoise/porpoiselaw05.PermitAll", spec := "permitAll", unfollowed := true, recurses := true, plainKeys := false, apart := false }
def PermitAllSaid : Prop := permitAllRow.holds Try.pinned (OpenSpec.ofChange permitAllSpec)

/-- ITS FALSE NEIGHBOUR: 'it returns false'. Refute it at one input. -/
def permitAllWrong : ChangeSpec := { name := "permitAll", fn := fun _ => fun
  | [d1, d2] => { results := [.lit (.bool false)], args := [d1, d2] }
  | _ => none }
def PermitAllWrongFalsely : Prop := permitAllRow.holds Try.pinned (OpenSpec.ofChange permitAllWrong)

/-- 'porpoiselaw05.PermitNobody': WHATEVER THE INPUT: true; the input reads as it did. -/
def permitNobodySpec : ChangeSpec := { name := "permitNobody", fn := fun _ => fun
  | [d] => { results := [.lit (.bool true)], args := [d] }
  | _ => none }
def permitNobodyRow : OpenClaim := { program := "ytkhdgdbbhbphiaa", sum := "d3c1e2c8980daa5606073ed006d34df02f5c93441c6a5813d56d2728c414b386", func := "porpoise/porpoiselaw05.PermitNobody", spec := "permitNobody", unfollowed := true, recurses := true, plainKeys := false, apart := false }
def PermitNobodySaid : Prop := permitNobodyRow.holds Try.pinned (OpenSpec.ofChange permitNobodySpec)

/-- ITS FALSE NEIGHBOUR: 'it returns false'. Refute it at one input. -/
def permitNobodyWrong : ChangeSpec := { name := "permitNobody", fn := fun _ => fun
  | [d] => { results := [.lit (.bool false)], args := [d] }
  | _ => none }
def PermitNobodyWrongFalsely : Prop := permitNobodyRow.holds Try.pinned (OpenSpec.ofChange permitNobodyWrong)

/- THE SECOND FORM. 'bulk': how many values and letters a reading holds, each counted each time it is reached (what is shared counts as often as it is met; a slice's spare places count too). A statement '..UptoSaid' is the law's where the arguments, and the package variables that the reading takes, are together of bulk at most 1048576: NARROWER than '..Said'. Prove '..Said' where nothing that the law and all that it calls make is longer than what came in: it says more and counts as full. Else prove '..UptoSaid'. A law counts once. -/
mutual
def uptoBulk {H : Type} : DataW H → Nat
  | .lit (.string bytes) => bytes.length + 1
  | .lit _ => 1
  | .nil => 1
  | .ptr d => uptoBulk d + 1
  | .slice elems spare => uptoBulkAll elems + uptoBulkAll spare + 1
  | .agg parts => uptoBulkAll parts + 1
  | .iface _ d => uptoBulk d + 1
  | .map entries => uptoBulkEntries entries + 1
  | .held _ => 1
def uptoBulkAll {H : Type} : List (DataW H) → Nat
  | [] => 0
  | d :: r => uptoBulk d + uptoBulkAll r
def uptoBulkEntries {H : Type} : List (Lit × DataW H) → Nat
  | [] => 0
  | x :: r => uptoBulkEntry x + uptoBulkEntries r
def uptoBulkEntry {H : Type} : Lit × DataW H → Nat
  | (.string bytes, d) => bytes.length + uptoBulk d + 1
  | (_, d) => uptoBulk d + 1
 end
def uptoSmall : (H : Type) → List (DataW H) → Bool := fun _ ds => decide (uptoBulkAll ds ≤ 1048576)
def OpenSpec.upto (s : _root_.Go.ChangeSpec) : _root_.Go.OpenSpec := { _root_.Go.OpenSpec.ofChange s with cond := some uptoSmall }

/-- 'porpoiselaw05.PermitOthers', WHERE WHAT IT READS IS OF BULK AT MOST 1048576: true; the input reads as it did. -/
def permitOthersUptoRow : OpenClaim := { program := "ytkhdgdbbhbphiaa", sum := "d3c1e2c8980daa5606073ed006d34df02f5c93441c6a5813d56d2728c414b386", func := "porpoise/porpoiselaw05.PermitOthers", spec := "permitOthers", plainKeys := false, apart := false, narrowed := true }
def PermitOthersUptoSaid : Prop := permitOthersUptoRow.holds Try.pinned (OpenSpec.upto permitOthersSpec)

/-- 'porpoiselaw05.PermitPlays', WHERE WHAT IT READS IS OF BULK AT MOST 1048576: true; the input reads as it did. -/
def permitPlaysUptoRow : OpenClaim := { program := "ytkhdgdbbhbphiaa", sum := "d3c1e2c8980daa5606073ed006d34df02f5c93441c6a5813d56d2728c414b386", func := "porpoise/porpoiselaw05.PermitPlays", spec := "permitPlays", unfollowed := true, recurses := true, plainKeys := false, apart := false, narrowed := true }
def PermitPlaysUptoSaid : Prop := permitPlaysUptoRow.holds Try.pinned (OpenSpec.upto permitPlaysSpec)

/-- 'porpoiselaw05.PermitBounds', WHERE WHAT IT READS IS OF BULK AT MOST 1048576: true; the input reads as it did. -/
def permitBoundsUptoRow : OpenClaim := { program := "ytkhdgdbbhbphiaa", sum := "d3c1e2c8980daa5606073ed006d34df02f5c93441c6a5813d56d2728c414b386", func := "porpoise/porpoiselaw05.PermitBounds", spec := "permitBounds", unfollowed := true, recurses := true, plainKeys := false, apart := false, narrowed := true }
def PermitBoundsUptoSaid : Prop := permitBoundsUptoRow.holds Try.pinned (OpenSpec.upto permitBoundsSpec)

/-- 'porpoiselaw05.PermitBack', WHERE WHAT IT READS IS OF BULK AT MOST 1048576: true; the input reads as it did. -/
def permitBackUptoRow : OpenClaim := { program := "ytkhdgdbbhbphiaa", sum := "d3c1e2c8980daa5606073ed006d34df02f5c93441c6a5813d56d2728c414b386", func := "porpoise/porpoiselaw05.PermitBack", spec := "permitBack", unfollowed := true, recurses := true, plainKeys := false, apart := false, narrowed := true }
def PermitBackUptoSaid : Prop := permitBackUptoRow.holds Try.pinned (OpenSpec.upto permitBackSpec)

/-- 'porpoiselaw05.PermitAll', WHERE WHAT IT READS IS OF BULK AT MOST 1048576: true; the input reads as it did. -/
def permitAllUptoRow : OpenClaim := { program := "ytkhdgdbbhbphiaa", sum := "d3c1e2c8980daa5606073ed006d34df02f5c93441c6a5813d56d2728c414b386", func := "porpoise/porpoiselaw05.PermitAll", spec := "permitAll", unfollowed := true, recurses := true, plainKeys := false, apart := false, narrowed := true }
def PermitAllUptoSaid : Prop := permitAllUptoRow.holds Try.pinned (OpenSpec.upto permitAllSpec)

/-- 'porpoiselaw05.PermitNobody', WHERE WHAT IT READS IS OF BULK AT MOST 1048576: true; the input reads as it did. -/
def permitNobodyUptoRow : OpenClaim := { program := "ytkhdgdbbhbphiaa", sum := "d3c1e2c8980daa5606073ed006d34df02f5c93441c6a5813d56d2728c414b386", func := "porpoise/porpoiselaw05.PermitNobody", spec := "permitNobody", unfollowed := true, recurses := true, plainKeys := false, apart := false, narrowed := true }
def PermitNobodyUptoSaid : Prop := permitNobodyUptoRow.holds Try.pinned (OpenSpec.upto permitNobodySpec)

end Rows
end Go.Proofs.Ytkhdgdbbhbphiaa
