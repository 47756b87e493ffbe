/- Batches: places of arguments, one more, split. -/
import Derived.Test.YtilpcgipjfegcaaProg
import Derived.Test.YtilpcgipjfegcaaSl
import Derived.WalkSpells
import Derived.KernelRfl
import Derived.Outline
import Derived.Deep.QuietTactic
import Derived.BigQuiet
import Derived.WalkLawsBesides
import Derived.Lib.Hide
import Derived.LoopTactic
namespace Go.Proofs.Ytilpcgipjfegcaa
open Go.RowKit
set_option linter.unusedVariables false
set_option linter.unusedSimpArgs false

/-- Where an argument is, or how many there are. -/
def idx : List Int → Int → Nat
  | [], _ => 0
  | x :: xs, a => if x = a then 0 else idx xs a + 1
theorem idx_le : ∀ (xs : List Int) (a : Int), idx xs a ≤ xs.length
  | [], _ => Nat.le_refl _
  | x :: xs, a => by
    unfold idx
    split
    · exact Nat.zero_le _
    · simpa using idx_le xs a
/-- Nobody ahead of place i is it, and place i is (or there is none). -/
theorem idx_at : ∀ {xs : List Int} {a : Int} {i : Nat}, (∀ j x, j < i → xs[j]? = some x → x ≠ a) → xs[i]? = some a → idx xs a = i
  | [], a, i, _, h => by simp at h
  | x :: xs, a, 0, _, h => by
    simp at h
    simp [idx, h]
  | x :: xs, a, i + 1, hn, h => by
    have h0 := hn 0 x (by omega) rfl
    unfold idx
    rw [if_neg h0, idx_at (i := i) (fun j y hj hy => hn (j + 1) y (by omega) (by simpa using hy)) (by simpa using h)]
theorem idx_none : ∀ {xs : List Int} {a : Int}, (∀ (j : Nat) x, xs[j]? = some x → x ≠ a) → idx xs a = xs.length
  | [], a, _ => rfl
  | x :: xs, a, hn => by
    have h0 := hn 0 x rfl
    unfold idx
    rw [if_neg h0, idx_none (xs := xs) (fun j y hy => hn (j + 1) y (by simpa using hy)), List.length_cons]

theorem ret_i {a b : Int} (h : a = b) : Ending.returned (.int .i64 a) = .returned (.int .i64 b) := by rw [h]
theorem ret_b {a b : Bool} (h : a = b) : Ending.returned (.bool a) = .returned (.bool b) := by rw [h]
/-- What slices.Index tells. -/
def sidx (xs : List Int) (a : Int) : Int := if idx xs a < xs.length then (idx xs a : Int) else -1

end Go.Proofs.Ytilpcgipjfegcaa
