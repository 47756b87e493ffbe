/- Keys of the cache, ids as keys; what is compared. -/
import Derived.Test.YtninaaolbgchpaaMk
import Derived.Test.YtninaaolbgchpaaArg
import Derived.DeepKeys4
import Derived.Test.YtninaaolbgchpaaProg
import Derived.WalkKit
import Derived.IntWalk
import Derived.Laws.StructEq
namespace Go.Proofs.Ytninaaolbgchpaa
open Go.RowKit
open Go.Maps (Keyed IsMap Tidy)
set_option linter.unusedVariables false
set_option linter.unusedSimpArgs false

abbrev K3 := Int × Int × Int
/-- A key's value, and its literal. -/
abbrev kval (x : K3) : Value := .agg #[.int .i64 x.1, .int .i64 x.2.1, .int .i64 x.2.2]
abbrev kcs (x : K3) : Array Value := #[.int .i64 x.1, .int .i64 x.2.1, .int .i64 x.2.2]
def kkl (x : K3) : Lit := .string (keyBytes [.int .i64 x.1, .int .i64 x.2.1, .int .i64 x.2.2])
def iok (x : Int) : Prop := (Lit.int .i64 x).wf = true
def kok (x : K3) : Prop := iok x.1 ∧ iok x.2.1 ∧ iok x.2.2
theorem laidK : laidOutB Try.prog = true := by kernel_rfl
theorem rowK : (47 : TypeId) < Try.prog.types.size := of_decide_eq_true (by kernel_rfl)
theorem wideK : (match Try.prog.underlying 47 with | some (.array _ _) | some (.struct _) => true | _ => false) = true := by rw [Try.underlying47]
theorem keyK : Keyed Try.prog 47 := Keyed.of_law (deep_law_laid laidK (m := 2) (by omega) rowK (by kernel_rfl) wideK)
theorem keyTypeK : Try.prog.keyType 47 = true := by kernel_rfl
theorem cellsK : Try.prog.cellsOf 47 = 3 := by kernel_rfl
theorem cellsI : Try.prog.cellsOf 3 = 1 := by kernel_rfl
theorem kkey {x : K3} (h : kok x) : keyOf Try.prog 47 (kval x) = some (kkl x) := by
  obtain ⟨a, b, c⟩ := x
  obtain ⟨h1, h2, h3⟩ := h
  unfold iok at h1 h2 h3
  simp only at h1 h2 h3
  have hsz : ∃ n, Try.prog.types.size + 1 = n + 2 := ⟨Try.prog.types.size - 1, by have : 0 < Try.prog.types.size := of_decide_eq_true (by kernel_rfl); omega⟩
  obtain ⟨n, hn⟩ := hsz
  have hform : (kval (a, b, c)).formed Try.prog 47 = true := by simp [kval, Value.formed, Try.underlying47, cellsK]
  have hlits : Try.prog.keyLits (Try.prog.types.size + 1) 47 [.int .i64 a, .int .i64 b, .int .i64 c] = some [.int .i64 a, .int .i64 b, .int .i64 c] := by
    rw [hn]
    simp [Program.keyLits, Try.underlying47, Try.underlying3, cellsK, cellsI, h1, h2, h3]
  unfold keyOf
  rw [Try.underlying47]
  simp only [keyTypeK, hform, Bool.and_self, if_true]
  show (Try.prog.keyLits (Try.prog.types.size + 1) 47 [.int .i64 a, .int .i64 b, .int .i64 c]).map _ = _
  rw [hlits]
  rfl
theorem kklit : Klit kkl kok := by
  refine ⟨fun x => trivial, fun x y hx hy h => ?_⟩
  have h1 := kkey hx
  rw [h] at h1
  have := keyK.inj h1 (kkey hy)
  obtain ⟨a, b, c⟩ := x
  obtain ⟨d, e, f⟩ := y
  simp at this
  rw [this.1, this.2.1, this.2.2]
/-- A key's value read back. -/
theorem kl1 {n : Nat} {v : Value} {ls : List Lit} (h : Try.prog.keyLits (n + 1) 3 [v] = some ls) : ∃ x, v = .int .i64 x ∧ iok x ∧ ls = [.int .i64 x] := by
  unfold Program.keyLits at h
  rw [Try.underlying3] at h
  cases v <;> simp at h
  rename_i k x
  obtain ⟨⟨rfl, hw⟩, rfl⟩ := h
  exact ⟨x, rfl, hw, rfl⟩
theorem kkey_inv {v : Value} {kl : Lit} (h : keyOf Try.prog 47 v = some kl) : ∃ x : K3, v = kval x ∧ kl = kkl x ∧ kok x := by
  unfold keyOf at h
  rw [Try.underlying47] at h
  simp only at h
  split at h
  · rename_i hc
    simp only [Bool.and_eq_true] at hc
    obtain ⟨_, hf⟩ := hc
    obtain ⟨ls, hls, rfl⟩ := Option.map_eq_some_iff.1 h
    have hsz : ∃ n, Try.prog.types.size + 1 = n + 2 := ⟨Try.prog.types.size - 1, by have : 0 < Try.prog.types.size := of_decide_eq_true (by kernel_rfl); omega⟩
    obtain ⟨n, hn⟩ := hsz
    cases v with
    | agg cs =>
      obtain ⟨cs⟩ := cs
      simp only [Value.formed, Try.underlying47, cellsK, beq_iff_eq] at hf
      match cs, hf with
      | [a, b, c], _ =>
        rw [hn] at hls
        unfold Program.keyLits at hls
        rw [Try.underlying47] at hls
        simp [Value.cells, cellsK, cellsI] at hls
        cases h1 : Try.prog.keyLits (n + 1) 3 [a] with
        | none => rw [h1] at hls; simp at hls
        | some l1 =>
          cases h2 : Try.prog.keyLits (n + 1) 3 [b] with
          | none => rw [h1, h2] at hls; simp at hls
          | some l2 =>
            cases h3 : Try.prog.keyLits (n + 1) 3 [c] with
            | none => rw [h1, h2, h3] at hls; simp at hls
            | some l3 =>
              rw [h1, h2, h3] at hls
              obtain ⟨x, rfl, hx, rfl⟩ := kl1 h1
              obtain ⟨y, rfl, hy, rfl⟩ := kl1 h2
              obtain ⟨z, rfl, hz, rfl⟩ := kl1 h3
              simp at hls
              subst hls
              exact ⟨(x, y, z), rfl, rfl, hx, hy, hz⟩
    | _ => simp [Value.formed, Try.underlying47] at hf
  · cases h
/-- Ids. -/
def ikl (x : Int) : Lit := .int .i64 x
theorem keyI : Keyed Try.prog 3 := Maps.int_keyed Try.underlying3
theorem ikey {x : Int} (h : iok x) : keyOf Try.prog 3 (.int .i64 x) = some (ikl x) := by
  unfold iok at h
  simp [keyOf, mapKey, Try.underlying3, h, ikl]
theorem iklit : Klit ikl iok := ⟨fun x => trivial, fun x y _ _ h => by unfold ikl at h; injection h⟩
/-- Keys, and what is told, compared. -/
theorem decK (x y : K3) : (x.1 == y.1 && x.2.1 == y.2.1 && x.2.2 == y.2.2) = decide (x = y) := by
  obtain ⟨a, b, c⟩ := x
  obtain ⟨d, e, f⟩ := y
  by_cases h1 : a = d <;> by_cases h2 : b = e <;> by_cases h3 : c = f <;> simp [h1, h2, h3]
theorem eqK (x y : K3) (w : World) : (Op.equalIn 10000 33 (kval x) (kval y)).run Try.prog w = .ok (decide (x = y)) w := by
  have u3 := Try.underlying3
  have a3 := Try.isAgg3
  have z3 := Try.sizeOf3
  have hS : Try.prog.underlying 33 = some (.struct (Try.prog.fieldsOf 33)) := by kernel_rfl
  have hp : Try.prog.stoodInHeld 33 = false := by kernel_rfl
  rw [← decK]
  rw [show (10000 : Nat) = 9999 + 1 from rfl, run_equalIn_agg w 9999 33 _ _ hS hp]
  simp only [Program.fieldsOf, Try.underlying33]
  go_simp
  by_cases h1 : x.fst = y.fst <;> by_cases h2 : x.snd.fst = y.snd.fst <;> by_cases h3 : x.snd.snd = y.snd.snd <;> simp [h1, h2, h3]
theorem gdK (op : BinOp) (a b : Operand) (x y : K3) (w : World) : (eqGuard op 33 a b (kval x) (kval y)).run Try.prog w = .ok () w := run_eqGuard_agg w op 33 a b _ _ (by kernel_rfl)
theorem eqT (x y : K3) (w : World) : (Op.equalIn 10000 44 (kval x) (kval y)).run Try.prog w = .ok (decide (x = y)) w := by
  have u3 := Try.underlying3
  have a3 := Try.isAgg3
  have z3 := Try.sizeOf3
  have hS : Try.prog.underlying 44 = some (.struct (Try.prog.fieldsOf 44)) := by kernel_rfl
  have hp : Try.prog.stoodInHeld 44 = false := by kernel_rfl
  rw [← decK]
  rw [show (10000 : Nat) = 9999 + 1 from rfl, run_equalIn_agg w 9999 44 _ _ hS hp]
  simp only [Program.fieldsOf, Try.underlying44]
  go_simp
  by_cases h1 : x.fst = y.fst <;> by_cases h2 : x.snd.fst = y.snd.fst <;> by_cases h3 : x.snd.snd = y.snd.snd <;> simp [h1, h2, h3]
theorem gdT (op : BinOp) (a b : Operand) (x y : K3) (w : World) : (eqGuard op 44 a b (kval x) (kval y)).run Try.prog w = .ok () w := run_eqGuard_agg w op 44 a b _ _ (by kernel_rfl)
end Go.Proofs.Ytninaaolbgchpaa
