/- Holders as keys. -/
import Derived.Test.YtkhdgdbbhbphiaaMk
import Derived.Test.YtkhdgdbbhbphiaaArg
import Derived.DeepKeys4
import Derived.Test.YtkhdgdbbhbphiaaProg
import Derived.WalkKit
import Derived.IntWalk
namespace Go.Proofs.Ytkhdgdbbhbphiaa
open Go.RowKit
open Go.Maps (Keyed IsMap Tidy)
set_option linter.unusedVariables false
set_option linter.unusedSimpArgs false

abbrev H2 := Int × Int
/-- A holder's value, and its key. -/
abbrev hval (x : H2) : Value := .agg #[.int .i64 x.1, .int .i64 x.2]
def hkl (x : H2) : Lit := .string (keyBytes [.int .i64 x.1, .int .i64 x.2])
def hok (x : H2) : Prop := (Lit.int .i64 x.1).wf = true ∧ (Lit.int .i64 x.2).wf = true
theorem laidK : laidOutB Try.prog = true := by kernel_rfl
theorem rowK : (31 : TypeId) < Try.prog.types.size := of_decide_eq_true (by kernel_rfl)
theorem wideK : (match Try.prog.underlying 31 with | some (.array _ _) | some (.struct _) => true | _ => false) = true := by rw [Try.underlying31]
theorem keyH : Keyed Try.prog 31 := Keyed.of_law (deep_law_laid laidK (m := 2) (by omega) rowK (by kernel_rfl) wideK)
theorem keyTypeH : Try.prog.keyType 31 = true := by kernel_rfl
theorem cellsH : Try.prog.cellsOf 31 = 2 := by kernel_rfl
theorem cellsI : Try.prog.cellsOf 3 = 1 := by kernel_rfl
theorem hkey {x : H2} (h : hok x) : keyOf Try.prog 31 (hval x) = some (hkl x) := by
  obtain ⟨a, b⟩ := x
  obtain ⟨h1, h2⟩ := h
  simp only at h1 h2
  have hsz : ∃ n, Try.prog.types.size + 1 = n + 2 := ⟨Try.prog.types.size - 1, by have : 0 < Try.prog.types.size := of_decide_eq_true (by kernel_rfl); omega⟩
  obtain ⟨n, hn⟩ := hsz
  have hform : (hval (a, b)).formed Try.prog 31 = true := by simp [hval, Value.formed, Try.underlying31, cellsH]
  have hlits : Try.prog.keyLits (Try.prog.types.size + 1) 31 [.int .i64 a, .int .i64 b] = some [.int .i64 a, .int .i64 b] := by
    rw [hn]
    simp [Program.keyLits, Try.underlying31, Try.underlying3, cellsH, cellsI, h1, h2]
  unfold keyOf
  rw [Try.underlying31]
  simp only [keyTypeH, hform, Bool.and_self, if_true]
  show (Try.prog.keyLits (Try.prog.types.size + 1) 31 [.int .i64 a, .int .i64 b]).map _ = _
  rw [hlits]
  rfl
theorem hklit : Klit hkl hok := by
  refine ⟨fun x => trivial, fun x y hx hy h => ?_⟩
  have h1 := hkey hx
  rw [h] at h1
  have := keyH.inj h1 (hkey hy)
  obtain ⟨a, b⟩ := x
  obtain ⟨c, d⟩ := y
  simp at this
  rw [this.1, this.2]
end Go.Proofs.Ytkhdgdbbhbphiaa
