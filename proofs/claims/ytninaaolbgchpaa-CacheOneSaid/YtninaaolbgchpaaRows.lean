/-
  No cell of these rows narrows 'for every input' (looked for: loops, veiled, ifaces, maps, wideKeys, modest, calm, conditions, laid).
  DERIVED. THE GIVEN ROWS OF THIS SEAT. 6 by the template 'for every input the law returns true; each argument reads behind the call as it read before'; 0 by the template 'total and deterministic' (their statements: YtninaaolbgchpaaTotals.lean).
  GIVEN WITH THE SEED: the statements are not yours to turn. If you find one false, say at which input.
  Laid BY PROGRAM, IN A SANDBOX (cutbox-rows.mjs): the forced cells as the released guide's own fill.sh prints them over the translation 292290b6090a76ea… (all of the seat's roots in one cut). By AI agents, Wed Nov 11 2026. No macro, syntax, notation, axiom, sorry.
-/
import Derived.Test.YtninaaolbgchpaaChecked
import GoSem.Claim
import GoSem.ClaimJoined
import GoSem.ClaimMapViews
import Derived.JoinedTies
import Derived.KernelRfl
namespace Go.Proofs.Ytninaaolbgchpaa
/- THE CELL 'sum', in the pinned program and in every row, IS THE sha256 OF THE DUMP (.gsa) THAT YtninaaolbgchpaaProg.lean LOADS. Nothing in Lean hashes anything: it is a label: what it is worth is what the hold of that sum in a sandbox is worth. -/
noncomputable def Try.pinned : Pinned := { name := "ytninaaolbgchpaa", sum := "292290b6090a76ea1376d57f67a857c9e23f443d6aa645bf53ec5f4fff46b252", checked := Try.checked }
namespace Rows
def none {H : Type} : Left H := { results := [], args := [] }

/-- 'porpoiselaw12.CachePlays': WHATEVER THE INPUT: true; the input reads as it did. -/
def cachePlaysSpec : ChangeSpec := { name := "cachePlays", fn := fun _ => fun
  | [d] => { results := [.lit (.bool true)], args := [d] }
  | _ => none }
def cachePlaysRow : OpenClaim := { program := "ytninaaolbgchpaa", sum := "292290b6090a76ea1376d57f67a857c9e23f443d6aa645bf53ec5f4fff46b252", func := "porpoise/porpoiselaw12.CachePlays", spec := "cachePlays", unfollowed := true, recurses := true, plainKeys := false, apart := false }
def CachePlaysSaid : Prop := cachePlaysRow.holds Try.pinned (OpenSpec.ofChange cachePlaysSpec)

/-- ITS FALSE NEIGHBOUR: 'it returns false'. Refute it at one input. -/
def cachePlaysWrong : ChangeSpec := { name := "cachePlays", fn := fun _ => fun
  | [d] => { results := [.lit (.bool false)], args := [d] }
  | _ => none }
def CachePlaysWrongFalsely : Prop := cachePlaysRow.holds Try.pinned (OpenSpec.ofChange cachePlaysWrong)

/-- 'porpoiselaw12.CacheOne': WHATEVER THE INPUT: true; the input reads as it did. -/
def cacheOneSpec : ChangeSpec := { name := "cacheOne", fn := fun _ => fun
  | [d1, d2, d3] => { results := [.lit (.bool true)], args := [d1, d2, d3] }
  | _ => none }
def cacheOneRow : OpenClaim := { program := "ytninaaolbgchpaa", sum := "292290b6090a76ea1376d57f67a857c9e23f443d6aa645bf53ec5f4fff46b252", func := "porpoise/porpoiselaw12.CacheOne", spec := "cacheOne", unfollowed := true, recurses := true, plainKeys := false, apart := false }
def CacheOneSaid : Prop := cacheOneRow.holds Try.pinned (OpenSpec.ofChange cacheOneSpec)

/-- ITS FALSE NEIGHBOUR: 'it returns false'. Refute it at one input. -/
def cacheOneWrong : ChangeSpec := { name := "cacheOne", fn := fun _ => fun
  | [d1, d2, d3] => { results := [.lit (.bool false)], args := [d1, d2, d3] }
  | _ => none }
def CacheOneWrongFalsely : Prop := cacheOneRow.holds Try.pinned (OpenSpec.ofChange cacheOneWrong)

/-- 'porpoiselaw12.CacheApart': WHATEVER THE INPUT: true; the input reads as it did. -/
def cacheApartSpec : ChangeSpec := { name := "cacheApart", fn := fun _ => fun
  | [d1, d2, d3] => { results := [.lit (.bool true)], args := [d1, d2, d3] }
  | _ => none }
def cacheApartRow : OpenClaim := { program := "ytninaaolbgchpaa", sum := "292290b6090a76ea1376d57f67a857c9e23f443d6aa645bf53ec5f4fff46b252", func := "porpoise/porpoiselaw12.CacheApart", spec := "cacheApart", unfollowed := true, recurses := true, plainKeys := false, apart := false }
def CacheApartSaid : Prop := cacheApartRow.holds Try.pinned (OpenSpec.ofChange cacheApartSpec)

/-- ITS FALSE NEIGHBOUR: 'it returns false'. Refute it at one input. -/
def cacheApartWrong : ChangeSpec := { name := "cacheApart", fn := fun _ => fun
  | [d1, d2, d3] => { results := [.lit (.bool false)], args := [d1, d2, d3] }
  | _ => none }
def CacheApartWrongFalsely : Prop := cacheApartRow.holds Try.pinned (OpenSpec.ofChange cacheApartWrong)

/-- 'porpoiselaw12.CacheNone': WHATEVER THE INPUT: true; the input reads as it did. -/
def cacheNoneSpec : ChangeSpec := { name := "cacheNone", fn := fun _ => fun
  | [d1, d2] => { results := [.lit (.bool true)], args := [d1, d2] }
  | _ => none }
def cacheNoneRow : OpenClaim := { program := "ytninaaolbgchpaa", sum := "292290b6090a76ea1376d57f67a857c9e23f443d6aa645bf53ec5f4fff46b252", func := "porpoise/porpoiselaw12.CacheNone", spec := "cacheNone", unfollowed := true, recurses := true, plainKeys := false, apart := false }
def CacheNoneSaid : Prop := cacheNoneRow.holds Try.pinned (OpenSpec.ofChange cacheNoneSpec)

/-- ITS FALSE NEIGHBOUR: 'it returns false'. Refute it at one input. -/
def cacheNoneWrong : ChangeSpec := { name := "cacheNone", fn := fun _ => fun
  | [d1, d2] => { results := [.lit (.bool false)], args := [d1, d2] }
  | _ => none }
def CacheNoneWrongFalsely : Prop := cacheNoneRow.holds Try.pinned (OpenSpec.ofChange cacheNoneWrong)

/-- 'porpoiselaw12.CacheClosed': WHATEVER THE INPUT: true; the input reads as it did. -/
def cacheClosedSpec : ChangeSpec := { name := "cacheClosed", fn := fun _ => fun
  | [d1, d2] => { results := [.lit (.bool true)], args := [d1, d2] }
  | _ => none }
def cacheClosedRow : OpenClaim := { program := "ytninaaolbgchpaa", sum := "292290b6090a76ea1376d57f67a857c9e23f443d6aa645bf53ec5f4fff46b252", func := "porpoise/porpoiselaw12.CacheClosed", spec := "cacheClosed", unfollowed := true, recurses := true, plainKeys := false, apart := false }
def CacheClosedSaid : Prop := cacheClosedRow.holds Try.pinned (OpenSpec.ofChange cacheClosedSpec)

/-- ITS FALSE NEIGHBOUR: 'it returns false'. Refute it at one input. -/
def cacheClosedWrong : ChangeSpec := { name := "cacheClosed", fn := fun _ => fun
  | [d1, d2] => { results := [.lit (.bool false)], args := [d1, d2] }
  | _ => none }
def CacheClosedWrongFalsely : Prop := cacheClosedRow.holds Try.pinned (OpenSpec.ofChange cacheClosedWrong)

/-- 'porpoiselaw12.CacheNobody': WHATEVER THE INPUT: true; the input reads as it did. -/
def cacheNobodySpec : ChangeSpec := { name := "cacheNobody", fn := fun _ => fun
  | [d1, d2] => { results := [.lit (.bool true)], args := [d1, d2] }
  | _ => none }
def cacheNobodyRow : OpenClaim := { program := "ytninaaolbgchpaa", sum := "292290b6090a76ea1376d57f67a857c9e23f443d6aa645bf53ec5f4fff46b252", func := "porpoise/porpoiselaw12.CacheNobody", spec := "cacheNobody", unfollowed := true, recurses := true, plainKeys := false, apart := false }
def CacheNobodySaid : Prop := cacheNobodyRow.holds Try.pinned (OpenSpec.ofChange cacheNobodySpec)

/-- ITS FALSE NEIGHBOUR: 'it returns false'. Refute it at one input. -/
def cacheNobodyWrong : ChangeSpec := { name := "cacheNobody", fn := fun _ => fun
  | [d1, d2] => { results := [.lit (.bool false)], args := [d1, d2] }
  | _ => none }
def CacheNobodyWrongFalsely : Prop := cacheNobodyRow.holds Try.pinned (OpenSpec.ofChange cacheNobodyWrong)

/- THE SECOND FORM. 'bulk': how many values and letters a reading holds, each counted each time it is reached (what is shared counts as often as it is met; a slice's spare places count too). A statement '..UptoSaid' is the law's where the arguments, and the package variables that the reading takes, are together of bulk at most 1048576: NARROWER than '..Said'. Prove '..Said' where nothing that the law and all that it calls make is longer than what came in: it says more and counts as full. Else prove '..UptoSaid'. A law counts once. -/
mutual
def uptoBulk {H : Type} : DataW H → Nat
  | .lit (.string bytes) => bytes.length + 1
  | .lit _ => 1
  | .nil => 1
  | .ptr d => uptoBulk d + 1
  | .slice elems spare => uptoBulkAll elems + uptoBulkAll spare + 1
  | .agg parts => uptoBulkAll parts + 1
  | .iface _ d => uptoBulk d + 1
  | .map entries => uptoBulkEntries entries + 1
  | .held _ => 1
def uptoBulkAll {H : Type} : List (DataW H) → Nat
  | [] => 0
  | d :: r => uptoBulk d + uptoBulkAll r
def uptoBulkEntries {H : Type} : List (Lit × DataW H) → Nat
  | [] => 0
  | x :: r => uptoBulkEntry x + uptoBulkEntries r
def uptoBulkEntry {H : Type} : Lit × DataW H → Nat
  | (.string bytes, d) => bytes.length + uptoBulk d + 1
  | (_, d) => uptoBulk d + 1
 end
def uptoSmall : (H : Type) → List (DataW H) → Bool := fun _ ds => decide (uptoBulkAll ds ≤ 1048576)
def OpenSpec.upto (s : _root_.Go.ChangeSpec) : _root_.Go.OpenSpec := { _root_.Go.OpenSpec.ofChange s with cond := some uptoSmall }

/-- 'porpoiselaw12.CachePlays', WHERE WHAT IT READS IS OF BULK AT MOST 1048576: true; the input reads as it did. -/
def cachePlaysUptoRow : OpenClaim := { program := "ytninaaolbgchpaa", sum := "292290b6090a76ea1376d57f67a857c9e23f443d6aa645bf53ec5f4fff46b252", func := "porpoise/porpoiselaw12.CachePlays", spec := "cachePlays", unfollowed := true, recurses := true, plainKeys := false, apart := false, narrowed := true }
def CachePlaysUptoSaid : Prop := cachePlaysUptoRow.holds Try.pinned (OpenSpec.upto cachePlaysSpec)

/-- 'porpoiselaw12.CacheOne', WHERE WHAT IT READS IS OF BULK AT MOST 1048576: true; the input reads as it did. -/
def cacheOneUptoRow : OpenClaim := { program := "ytninaaolbgchpaa", sum := "292290b6090a76ea1376d57f67a857c9e23f443d6aa645bf53ec5f4fff46b252", func := "porpoise/porpoiselaw12.CacheOne", spec := "cacheOne", unfollowed := true, recurses := true, plainKeys := false, apart := false, narrowed := true }
def CacheOneUptoSaid : Prop := cacheOneUptoRow.holds Try.pinned (OpenSpec.upto cacheOneSpec)

/-- 'porpoiselaw12.CacheApart', WHERE WHAT IT READS IS OF BULK AT MOST 1048576: true; the input reads as it did. -/
def cacheApartUptoRow : OpenClaim := { program := "ytninaaolbgchpaa", sum := "292290b6090a76ea1376d57f67a857c9e23f443d6aa645bf53ec5f4fff46b252", func := "porpoise/porpoiselaw12.CacheApart", spec := "cacheApart", unfollowed := true, recurses := true, plainKeys := false, apart := false, narrowed := true }
def CacheApartUptoSaid : Prop := cacheApartUptoRow.holds Try.pinned (OpenSpec.upto cacheApartSpec)

/-- 'porpoiselaw12.CacheNone', WHERE WHAT IT READS IS OF BULK AT MOST 1048576: true; the input reads as it did. -/
def cacheNoneUptoRow : OpenClaim := { program := "ytninaaolbgchpaa", sum := "292290b6090a76ea1376d57f67a857c9e23f443d6aa645bf53ec5f4fff46b252", func := "porpoise/porpoiselaw12.CacheNone", spec := "cacheNone", unfollowed := true, recurses := true, plainKeys := false, apart := false, narrowed := true }
def CacheNoneUptoSaid : Prop := cacheNoneUptoRow.holds Try.pinned (OpenSpec.upto cacheNoneSpec)

/-- 'porpoiselaw12.CacheClosed', WHERE WHAT IT READS IS OF BULK AT MOST 1048576: true; the input reads as it did. -/
def cacheClosedUptoRow : OpenClaim := { program := "ytninaaolbgchpaa", sum := "292290b6090a76ea1376d57f67a857c9e23f443d6aa645bf53ec5f4fff46b252", func := "porpoise/porpoiselaw12.CacheClosed", spec := "cacheClosed", unfollowed := true, recurses := true, plainKeys := false, apart := false, narrowed := true }
def CacheClosedUptoSaid : Prop := cacheClosedUptoRow.holds Try.pinned (OpenSpec.upto cacheClosedSpec)

/-- 'porpoiselaw12.CacheNobody', WHERE WHAT IT READS IS OF BULK AT MOST 1048576: true; the input reads as it did. -/
def cacheNobodyUptoRow : OpenClaim := { program := "ytninaaolbgchpaa", sum := "292290b6090a76ea1376d57f67a857c9e23f443d6aa645bf53ec5f4fff46b252", func := "porpoise/porpoiselaw12.CacheNobody", spec := "cacheNobody", unfollowed := true, recurses := true, plainKeys := false, apart := false, narrowed := true }
def CacheNobodyUptoSaid : Prop := cacheNobodyUptoRow.holds Try.pinned (OpenSpec.upto cacheNobodySpec)

end Rows
end Go.Proofs.Ytninaaolbgchpaa
