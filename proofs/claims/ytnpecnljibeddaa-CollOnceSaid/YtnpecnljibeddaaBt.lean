/- Batches: places of arguments, one more, split. -/
import Derived.Test.YtnpecnljibeddaaProg
import Derived.Test.YtnpecnljibeddaaSl
import Derived.WalkSpells
import Derived.KernelRfl
import Derived.Outline
import Derived.Deep.QuietTactic
import Derived.BigQuiet
import Derived.WalkLawsBesides
import Derived.Lib.Hide
import Derived.LoopTactic
namespace Go.Proofs.Ytnpecnljibeddaa
open Go.RowKit
set_option linter.unusedVariables false
set_option linter.unusedSimpArgs false

/-- Where an argument is, or how many there are. -/
def idx : List Int → Int → Nat
  | [], _ => 0
  | x :: xs, a => if x = a then 0 else idx xs a + 1
theorem idx_le : ∀ (xs : List Int) (a : Int), idx xs a ≤ xs.length
  | [], _ => Nat.le_refl _
  | x :: xs, a => by
    unfold idx
    split
    · exact Nat.zero_le _
    · simpa using idx_le xs a
/-- Nobody ahead of place i is it, and place i is (or there is none). -/
theorem idx_at : ∀ {xs : List Int} {a : Int} {i : Nat}, (∀ j x, j < i → xs[j]? = some x → x ≠ a) → xs[i]? = some a → idx xs a = i
  | [], a, i, _, h => by simp at h
  | x :: xs, a, 0, _, h => by
    simp at h
    simp [idx, h]
  | x :: xs, a, i + 1, hn, h => by
    have h0 := hn 0 x (by omega) rfl
    unfold idx
    rw [if_neg h0, idx_at (i := i) (fun j y hj hy => hn (j + 1) y (by omega) (by simpa using hy)) (by simpa using h)]
theorem idx_none : ∀ {xs : List Int} {a : Int}, (∀ (j : Nat) x, xs[j]? = some x → x ≠ a) → idx xs a = xs.length
  | [], a, _ => rfl
  | x :: xs, a, hn => by
    have h0 := hn 0 x rfl
    unfold idx
    rw [if_neg h0, idx_none (xs := xs) (fun j y hy => hn (j + 1) y (by simpa using hy)), List.length_cons]

theorem ret_i {a b : Int} (h : a = b) : Ending.returned (.int .i64 a) = .returned (.int .i64 b) := by rw [h]
theorem ret_b {a b : Bool} (h : a = b) : Ending.returned (.bool a) = .returned (.bool b) := by rw [h]
/-- What slices.Index tells. -/
def sidx (xs : List Int) (a : Int) : Int := if idx xs a < xs.length then (idx xs a : Int) else -1

set_option maxHeartbeats 400000 in
theorem index_any (A : Option Addr) (cap : Nat) (xs : List Int) (a : Int) (w : World) (hs : Sl w A xs.length cap (nums xs)) :
    Calls Try.prog 27 #[.slice A xs.length cap, .int .i64 a] w fun e w' => e = .returned (.int .i64 (sidx xs a)) ∧ w = w' := by
  have hm : xs.length ≤ 9223372036854775807 := by have := hs.le; have := hs.cm; unfold maxLen at this; omega
  have HS := Lib.hid hs
  clear hs
  go_enter Try.func27, Try.ntmps27
  go_wp2
  go_loop [8] (fun i => ∃ k : Nat, k ≤ xs.length ∧ i = .int .i64 k ∧ Hid (∀ j x, j < k → xs[j]? = some x → x ≠ a)) (fun i => xs.length - (intOf i).toNat)
  case atStart => exact ⟨0, Nat.zero_le _, rfl, Lib.hid (fun j x h => by omega)⟩
  case round =>
    obtain ⟨k, hk, rfl, hn⟩ := hrel
    by_cases hlt : k < xs.length
    · obtain ⟨x, hx⟩ : ∃ x, xs[k]? = some x := ⟨xs[k]'hlt, List.getElem?_eq_getElem _⟩
      obtain ⟨b, o, rfl, hb, hc⟩ := HS.out.num hx
      have HX := Lib.hid hx
      clear hx
      by_cases hxa : x = a
      · subst hxa
        have HI : Hid (idx xs x = k) := idx_at hn.out HX.out
        go_wp2
        go_ret
        exact ⟨ret_i (by unfold sidx; rw [HI.out, if_pos hlt]), rfl⟩
      · have e1 : (a == x) = false := by simpa using fun h => hxa h.symm
        have HN : Hid (∀ j y, j < k + 1 → xs[j]? = some y → y ≠ a) := Lib.hid (fun j y hj hy => by
          by_cases hjk : j = k
          · subst hjk
            have := HX.out.symm.trans hy
            injection this with this
            rw [← this]
            exact hxa
          · exact hn.out j y (by omega) hy)
        clear hxa
        go_wp2
        go_round
        case rel => exact ⟨k + 1, by omega, by go_num, HN⟩
        case measure => simp [intOf]; omega
    · have HI : Hid (idx xs a = xs.length) := idx_none (fun j x hx => hn.out j x (by have := (List.getElem?_eq_some_iff.1 hx).1; omega) hx)
      go_wp2
      go_ret
      exact ⟨ret_i (by unfold sidx; rw [HI.out, if_neg (by omega)]), rfl⟩

set_option maxHeartbeats 400000 in
theorem at_any (A : Option Addr) (cap : Nat) (xs : List Int) (a : Int) (w : World) (hs : Sl w A xs.length cap (nums xs)) :
    Calls Try.prog 28 #[.slice A xs.length cap, .int .i64 a] w fun e w' => e = .returned (.int .i64 (idx xs a : Int)) ∧ w = w' := by
  have hm : xs.length ≤ 9223372036854775807 := by have := hs.le; have := hs.cm; unfold maxLen at this; omega
  have HS := Lib.hid hs
  clear hs
  go_enter Try.func28, Try.ntmps28
  go_wp2
  go_loop [5] (fun i => ∃ k : Nat, k ≤ xs.length ∧ i = .int .i64 k ∧ Hid (∀ j x, j < k → xs[j]? = some x → x ≠ a)) (fun i => xs.length - (intOf i).toNat)
  case atStart => exact ⟨0, Nat.zero_le _, rfl, Lib.hid (fun j x h => by omega)⟩
  case round =>
    obtain ⟨k, hk, rfl, hn⟩ := hrel
    by_cases hlt : k < xs.length
    · obtain ⟨x, hx⟩ : ∃ x, xs[k]? = some x := ⟨xs[k]'hlt, List.getElem?_eq_getElem _⟩
      obtain ⟨b, o, rfl, hb, hc⟩ := HS.out.num hx
      have HX := Lib.hid hx
      clear hx
      by_cases hxa : x = a
      · subst hxa
        have HI : Hid (idx xs x = k) := idx_at hn.out HX.out
        go_wp2
        go_ret
        exact ⟨ret_i (by rw [HI.out]), rfl⟩
      · have e1 : (x == a) = false := by simpa using hxa
        have HN : Hid (∀ j y, j < k + 1 → xs[j]? = some y → y ≠ a) := Lib.hid (fun j y hj hy => by
          by_cases hjk : j = k
          · subst hjk
            have := HX.out.symm.trans hy
            injection this with this
            rw [← this]
            exact hxa
          · exact hn.out j y (by omega) hy)
        clear hxa
        go_wp2
        go_round
        case rel => exact ⟨k + 1, by omega, by go_num, HN⟩
        case measure => simp [intOf]; omega
    · have HI : Hid (idx xs a = xs.length) := idx_none (fun j x hx => hn.out j x (by have := (List.getElem?_eq_some_iff.1 hx).1; omega) hx)
      go_wp2
      go_ret
      exact ⟨ret_i (by rw [HI.out]), rfl⟩
end Go.Proofs.Ytnpecnljibeddaa
