/- The first call of a law: begun. -/
import Derived.Test.YtilpcgipjfegcaaMc
import Derived.Test.YtilpcgipjfegcaaCl
import Derived.Test.YtilpcgipjfegcaaCo
import Derived.Test.YtilpcgipjfegcaaOs
import Derived.Test.YtilpcgipjfegcaaSa
import Derived.Test.YtilpcgipjfegcaaBc
import Derived.Test.YtilpcgipjfegcaaInv
namespace Go.Proofs.Ytilpcgipjfegcaa
open Go.RowKit
set_option linter.unusedVariables false
set_option linter.unusedSimpArgs false

def bgΦ (G base : Nat) (A : Option Addr) (n c m : Nat) (M : Option Addr) (d : Nat) (st sp cs sa : Int) (ms : List (Int × Int)) : Nat → Value → World → Prop
  | 0, v, _ => v = .agg #[.slice A n c, .slice M m d, .int .i64 st, .int .i64 sp, .int .i64 cs, .int .u64 sa]
  | 1, v, w => ∃ M' d', v = .agg #[.slice A n c, .slice M' m d', .int .i64 st, .int .i64 sp, .int .i64 cs, .int .u64 sa] ∧ ∃ ob, w.ownsRow ob 64 2 (.slice M' m d') m (prs ms)
  | 2, v, w => ∃ M' d', v = .agg #[.slice A n c, .slice M' m d'] ∧ ∃ ob, w.ownsRow ob 64 2 (.slice M' m d') m (prs ms)
  | 3, v, _ => v = .pointer (some ⟨G, 5, none⟩)
  | 4, v, _ => v = .int .u64 sa
  | 5, v, w => ∃ M' d', v = .agg #[.slice A n c, .slice M' m d', .int .i64 1, .int .i64 0, .int .i64 0, .int .u64 sa] ∧ ∃ ob, w.ownsRow ob 64 2 (.slice M' m d') m (prs ms)
  | 6, v, w => ∃ g, v = .pointer (some ⟨g, 0, none⟩) ∧ base ≤ g ∧ Blk w g 38 #[.slice none 0 0, .slice none 0 0, .int .i64 0, .int .i64 0, .int .i64 0, .int .u64 0]
  | _, _, _ => True
theorem bgΦ_stab {G base : Nat} {A : Option Addr} {n c m : Nat} {M : Option Addr} {d : Nat} {st sp cs sa : Int} {ms : List (Int × Int)} : ∀ j v w w', bgΦ G base A n c m M d st sp cs sa ms j v w → Upd (fun _ => False) w w' → bgΦ G base A n c m M d st sp cs sa ms j v w' := by
  intro j v w w' h hu
  rcases j with _ | _ | _ | _ | _ | _ | _ | j
  · exact h
  · obtain ⟨M', d', h1, ob, h2⟩ := h
    exact ⟨M', d', h1, ob, own_upd0 h2 hu⟩
  · obtain ⟨M', d', h1, ob, h2⟩ := h
    exact ⟨M', d', h1, ob, own_upd0 h2 hu⟩
  · exact h
  · exact h
  · obtain ⟨M', d', h1, ob, h2⟩ := h
    exact ⟨M', d', h1, ob, own_upd0 h2 hu⟩
  · obtain ⟨g, h1, h2, h3⟩ := h
    exact ⟨g, h1, h2, h3.upd hu (fun h => h)⟩
  · trivial
theorem agg_two {c : Array Value} (h : Oks [.int .i64, .int .i64] c.toList) : ∃ p q, c = #[.int .i64 p, .int .i64 q] := by
  obtain ⟨c⟩ := c
  obtain ⟨v0, r0, e0, ⟨x, rfl, _⟩, h1⟩ := h.cons
  obtain ⟨v1, r1, e1, ⟨y, rfl, _⟩, h2⟩ := h1.cons
  have e2 := h2.nil
  simp only at e0
  subst e0 e1 e2
  exact ⟨x, y, rfl⟩
theorem own_set6 {w : World} {ob g : Nat} {e t : TypeId} {sz n cap : Nat} {A : Option Addr} {xs : List Value} {cs : Array Value} (h : w.ownsRow ob e sz (.slice A n cap) n xs) (hb : Blk w g t cs) (hne : e ≠ t) (b0 b1 b2 b3 b4 b5 : Value) : Sl ((((((w.setCell ⟨g, 0, none⟩ b0).setCell ⟨g, 1, none⟩ b1).setCell ⟨g, 2, none⟩ b2).setCell ⟨g, 3, none⟩ b3).setCell ⟨g, 4, none⟩ b4).setCell ⟨g, 5, none⟩ b5) A n cap xs := by
  have hn : ∀ b, (Value.slice A n cap).ownBlock = some b → ¬ At g b := fun b h1 h2 => own_sep h hb hne (by rw [h1, show b = g from h2])
  obtain ⟨A2, c2, e, hs, _⟩ := Sl.of_own (own_upd h ((((((Upd.refl (At g) w).set (p := ⟨g, 0, none⟩) (.inl rfl) b0).set (p := ⟨g, 1, none⟩) (.inl rfl) b1).set (p := ⟨g, 2, none⟩) (.inl rfl) b2).set (p := ⟨g, 3, none⟩) (.inl rfl) b3).set (p := ⟨g, 4, none⟩) (.inl rfl) b4 |>.set (p := ⟨g, 5, none⟩) (.inl rfl) b5) hn)
  injection e with e1 e2 e3
  subst e1
  subst e3
  exact hs
theorem Blk.set6 {w : World} {g : Nat} {t : TypeId} {a0 a1 a2 a3 a4 a5 : Value} (h : Blk w g t #[a0, a1, a2, a3, a4, a5]) (b0 b1 b2 b3 b4 b5 : Value) : Blk ((((((w.setCell ⟨g, 0, none⟩ b0).setCell ⟨g, 1, none⟩ b1).setCell ⟨g, 2, none⟩ b2).setCell ⟨g, 3, none⟩ b3).setCell ⟨g, 4, none⟩ b4).setCell ⟨g, 5, none⟩ b5) g t #[b0, b1, b2, b3, b4, b5] := by
  have := (((((h.set 0 b0).set 1 b1).set 2 b2).set 3 b3).set 4 b4).set 5 b5
  simpa using this
theorem Upd.set6 {S : Nat → Prop} {a w : World} {g : Nat} (h : Upd S a w) (hp : S g ∨ a.heap.size ≤ g) (b0 b1 b2 b3 b4 b5 : Value) : Upd S a ((((((w.setCell ⟨g, 0, none⟩ b0).setCell ⟨g, 1, none⟩ b1).setCell ⟨g, 2, none⟩ b2).setCell ⟨g, 3, none⟩ b3).setCell ⟨g, 4, none⟩ b4).setCell ⟨g, 5, none⟩ b5) :=
  (((((h.set (p := ⟨g, 0, none⟩) hp b0).set (p := ⟨g, 1, none⟩) hp b1).set (p := ⟨g, 2, none⟩) hp b2).set (p := ⟨g, 3, none⟩) hp b3).set (p := ⟨g, 4, none⟩) hp b4).set (p := ⟨g, 5, none⟩) hp b5
end Go.Proofs.Ytilpcgipjfegcaa
