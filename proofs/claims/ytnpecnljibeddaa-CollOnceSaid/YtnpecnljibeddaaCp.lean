/- A window's deeds in plain Lean; a window in memory. -/
import Derived.Test.YtnpecnljibeddaaBa
import Derived.Test.YtnpecnljibeddaaKp
import Derived.Test.YtnpecnljibeddaaIg
import Derived.IntWalk
import Derived.Deep.RegionHeld3
import Derived.Deep.DrawnRows
namespace Go.Proofs.Ytnpecnljibeddaa
open Go.RowKit
set_option linter.unusedVariables false
set_option linter.unusedSimpArgs false

/-- A batch: unlike arguments, and members. -/
abbrev BT := List Int × List (Int × Int)
/-- What is open, and when it ends. -/
abbrev CSt := Option (BT × Int)
/-- Opened, ready, due, a batch. -/
abbrev CStep := Bool × Bool × Int × BT
def sat (a b : Int) : Int := if a + b ≤ 18446744073709551615 then a + b else 18446744073709551615
def cput (most : Int) (b : BT) (e : Int) (op : Bool) (due : Int) : CSt × CStep :=
  if most ≤ (b.1.length : Int) then (none, op, true, due, b) else (some (b, e), op, false, due, ([], []))
def cadd (win most : Int) (s : CSt) (now id arg : Int) : CSt × CStep :=
  match s with
  | none => cput most ([arg], [(id, 0)]) (sat now win) true (sat now win)
  | some (b, e) => cput most ((badd b.1 b.2 id arg most).1, (badd b.1 b.2 id arg most).2.1) e false 0
def cexp (s : CSt) (now : Int) : CSt × BT × Bool :=
  match s with
  | none => (none, ([], []), false)
  | some (b, e) => if now < e then (some (b, e), ([], []), false) else (none, b, true)
/-- How many members are open. -/
def cmem (s : CSt) : Nat := match s with | none => 0 | some (b, _) => b.2.length
def cargs (s : CSt) : Nat := match s with | none => 0 | some (b, _) => b.1.length
theorem cput_mem (most : Int) (b : BT) (e : Int) (op : Bool) (due : Int) : cmem (cput most b e op due).1 ≤ b.2.length ∧ cargs (cput most b e op due).1 ≤ b.1.length := by
  unfold cput
  split <;> simp [cmem, cargs]
theorem cadd_mem (win most : Int) (s : CSt) (now id arg : Int) : cmem (cadd win most s now id arg).1 ≤ cmem s + 1 ∧ cargs (cadd win most s now id arg).1 ≤ cargs s + 1 := by
  unfold cadd
  split
  · exact ⟨Nat.le_trans (cput_mem _ _ _ _ _).1 (by simp [cmem]), Nat.le_trans (cput_mem _ _ _ _ _).2 (by simp [cargs])⟩
  · exact ⟨Nat.le_trans (cput_mem _ _ _ _ _).1 (badd_len2 _ _ _ _ _), Nat.le_trans (cput_mem _ _ _ _ _).2 (badd_len1 _ _ _ _ _)⟩
theorem cexp_mem (s : CSt) (now : Int) : cmem (cexp s now).1 ≤ cmem s ∧ cargs (cexp s now).1 ≤ cargs s := by
  unfold cexp
  split
  · simp
  · split <;> simp [cmem, cargs]

/-- The blocks that a window owns. -/
def Fr2 (g : Nat) (p : Option Nat) : Nat → Prop := fun k => k = g ∨ p = some k
/-- A window's blocks and slices. -/
def CIn (w : World) (F : Nat → Prop) (g : Nat) (p : Option Nat) (win most : Int) : CSt → Prop
  | none => p = none ∧ Blk w g 69 #[.pointer none, .int .u64 win, .int .i64 most]
  | some (b, e) => ∃ o A c M d, p = some o ∧ 0 < b.1.length ∧ 0 < b.2.length ∧ Blk w g 69 #[.pointer (some ⟨o, 0, none⟩), .int .u64 win, .int .i64 most] ∧ Blk w o 72 #[.slice A b.1.length c, .slice M b.2.length d, .int .u64 e] ∧ Kp w F A b.1.length c (nums b.1) ∧ Kp w F M b.2.length d (prs b.2)
/-- Block g is such a window; what is written lies in F. -/
structure IsC (w : World) (F : Nat → Prop) (g : Nat) (p : Option Nat) (win most : Int) (s : CSt) : Prop where
  lt : ∀ k, F k → k < w.heap.size
  own : F g
  opn : ∀ k, p = some k → F k
  st : CIn w F g p win most s
theorem IsC.fr {w : World} {F : Nat → Prop} {g : Nat} {p : Option Nat} {win most : Int} {s : CSt} (h : IsC w F g p win most s) : ∀ k, Fr2 g p k → F k := fun k hk => by
  rcases hk with rfl | hk
  · exact h.own
  · exact h.opn k hk
/-- It is as it was, where others are written. -/
theorem IsC.keep {w w' : World} {F F' S : Nat → Prop} {g : Nat} {p : Option Nat} {win most : Int} {s : CSt} (h : IsC w F g p win most s) (hu : Upd S w w') (hn : ∀ k, Fr2 g p k → ¬ S k) (hs : ∀ k, S k → F k ∨ w.heap.size ≤ k) (hF : ∀ k, F' k → F k ∨ w.heap.size ≤ k) (hl : ∀ k, F' k → k < w'.heap.size) (hm : ∀ k, F k → F' k) : IsC w' F' g p win most s := by
  obtain ⟨h1, h2, h3, h4⟩ := h
  refine ⟨hl, hm _ h2, fun k hk => hm _ (h3 k hk), ?_⟩
  cases s with
  | none => exact ⟨h4.1, h4.2.upd hu (hn g (.inl rfl))⟩
  | some be =>
    obtain ⟨b, e⟩ := be
    obtain ⟨o, A, c, M, d, rfl, p1, p2, b1, b2, k1, k2⟩ := h4
    exact ⟨o, A, c, M, d, rfl, p1, p2, b1.upd hu (hn g (.inl rfl)), b2.upd hu (hn o (.inr rfl)), k1.step hu hs hF, k2.step hu hs hF⟩
theorem IsC.keep0 {w w' : World} {F : Nat → Prop} {g : Nat} {p : Option Nat} {win most : Int} {s : CSt} (h : IsC w F g p win most s) (hu : Upd (fun _ => False) w w') : IsC w' F g p win most s :=
  h.keep hu (fun _ _ h => h) (fun _ h => h.elim) (fun _ h => .inl h) (fun k hk => Nat.lt_of_lt_of_le (h.lt k hk) hu.size) (fun _ h => h)
theorem IsC.blk {w : World} {F : Nat → Prop} {g : Nat} {p : Option Nat} {win most : Int} {s : CSt} (h : IsC w F g p win most s) : ∃ q, Blk w g 69 #[.pointer q, .int .u64 win, .int .i64 most] ∧ (q = none ↔ s = none) := by
  cases s with
  | none => exact ⟨_, h.st.2, by simp⟩
  | some be =>
    obtain ⟨b, e⟩ := be
    obtain ⟨o, A, c, M, d, rfl, p1, p2, b1, b2, k1, k2⟩ := h.st
    exact ⟨_, b1, by simp⟩
/-- A row of the call's own lies apart from a window. -/
theorem IsC.ne_own {w : World} {F : Nat → Prop} {g : Nat} {p : Option Nat} {win most : Int} {s : CSt} (h : IsC w F g p win most s) {ob : Nat} {e : TypeId} {size n : Nat} {v : Value} {xs : List Value} (ho : w.ownsRow ob e size v n xs) (h1 : e ≠ 69) (h2 : e ≠ 72) : ∀ b, v.ownBlock = some b → ¬ Fr2 g p b := by
  intro b hb hf
  obtain ⟨q, hq, _⟩ := h.blk
  rcases hf with rfl | hf
  · exact own_sep ho hq h1 hb
  · cases s with
    | none => have := h.st.1; rw [this] at hf; cases hf
    | some be =>
      obtain ⟨bb, e⟩ := be
      obtain ⟨o, A, c, M, d, rfl, p1, p2, b1, b2, k1, k2⟩ := h.st
      injection hf with hf
      subst hf
      exact own_sep ho b2 h2 hb
end Go.Proofs.Ytnpecnljibeddaa
