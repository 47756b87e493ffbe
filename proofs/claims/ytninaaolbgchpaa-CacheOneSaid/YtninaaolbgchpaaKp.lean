/- Slices that are read while some blocks are written: apart from those blocks. -/
import Derived.Test.YtninaaolbgchpaaOw
namespace Go.Proofs.Ytninaaolbgchpaa
open Go.RowKit
set_option linter.unusedVariables false

/-- A slice that is read, apart from the blocks of F. -/
structure Kp (w : World) (F : Nat → Prop) (A : Option Addr) (n cap : Nat) (cs : List Value) : Prop where
  sl : Sl w A n cap cs
  off : ∀ b o, A = some ⟨b, o, none⟩ → cs = [] ∨ ¬ F b
theorem Kp.zero (w : World) (F : Nat → Prop) : Kp w F none 0 0 [] := ⟨Sl.zero w, fun b o e => by cases e⟩
theorem Kp.step {w w' : World} {F F' S : Nat → Prop} {A : Option Addr} {n cap : Nat} {cs : List Value} (h : Kp w F A n cap cs) (hu : Upd S w w') (hs : ∀ k, S k → F k ∨ w.heap.size ≤ k) (hF : ∀ k, F' k → F k ∨ w.heap.size ≤ k) : Kp w' F' A n cap cs := by
  obtain ⟨hsl, hoff⟩ := h
  refine ⟨⟨hsl.le, hsl.cm, hsl.nil, ?_⟩, ?_⟩
  · rcases hsl.at_ with he | ⟨b, o, hA, hlt, hc⟩
    · exact .inl he
    · rcases hoff b o hA with he | hn
      · exact .inl he
      · refine .inr ⟨b, o, hA, Nat.lt_of_lt_of_le hlt hu.size, fun j u hj => ?_⟩
        rw [hu.cellq (p := ⟨b, o + j, none⟩) hlt (fun hb => (hs _ hb).elim hn (fun h1 => absurd hlt (Nat.not_lt.2 h1)))]
        exact hc j u hj
  · intro b o hA
    rcases hsl.at_ with he | ⟨b', o', hA', hlt, hc⟩
    · exact .inl he
    · rw [hA] at hA'
      injection hA' with hA'
      injection hA' with e1 e2
      subst e1
      rcases hoff b o hA with he | hn
      · exact .inl he
      · exact .inr fun hb => (hF _ hb).elim hn (fun h1 => absurd hlt (Nat.not_lt.2 h1))
theorem Kp.keep {w w' : World} {F S : Nat → Prop} {A : Option Addr} {n cap : Nat} {cs : List Value} (h : Kp w F A n cap cs) (hu : Upd S w w') (hs : ∀ k, S k → F k) : Kp w' F A n cap cs := h.step hu (fun k hk => .inl (hs k hk)) (fun k hk => .inl hk)
theorem Kp.keep0 {w w' : World} {F : Nat → Prop} {A : Option Addr} {n cap : Nat} {cs : List Value} (h : Kp w F A n cap cs) (hu : Upd (fun _ => False) w w') : Kp w' F A n cap cs := h.keep hu (fun _ h => h.elim)
theorem Kp.of_new {w : World} {F : Nat → Prop} {A : Option Addr} {n cap : Nat} {cs : List Value} (h : Sl w A n cap cs) (hn : ∀ b o, A = some ⟨b, o, none⟩ → ¬ F b) : Kp w F A n cap cs := ⟨h, fun b o e => .inr (hn b o e)⟩
/-- A slice that is the old one, or new. -/
theorem Kp.nw {w w' : World} {F : Nat → Prop} {A A' : Option Addr} {n n' cap cap' : Nat} {cs cs' : List Value} (h : Kp w F A n cap cs) (hs : Sl w' A' n' cap' cs') (hn : Nw w.heap.size A' A) (hlt : ∀ k, F k → k < w.heap.size) (hne : cs = [] → cs' = [] ∨ ∀ b o, A' = some ⟨b, o, none⟩ → w.heap.size ≤ b) : Kp w' F A' n' cap' cs' := by
  refine ⟨hs, fun b o e => ?_⟩
  rcases hn b o e with rfl | hge
  · rcases h.off b o e with he | hx
    · rcases hne he with h1 | h1
      · exact .inl h1
      · exact .inr fun hF => by have := hlt b hF; have := h1 b o e; omega
    · exact .inr hx
  · exact .inr fun hF => by have := hlt b hF; omega
theorem Kp.apart {w : World} {F : Nat → Prop} {A : Option Addr} {n cap : Nat} {cs : List Value} (h : Kp w F A n cap cs) (hne : 0 < cs.length) : ∀ b k, A = some ⟨b, k, none⟩ → b < w.heap.size ∧ ¬ F b := by
  intro b k e
  rcases h.sl.at_ with he | ⟨b', o', hA', hlt, hc⟩
  · rw [he] at hne
    exact absurd hne (Nat.lt_irrefl _)
  · rw [e] at hA'
    injection hA' with hA'
    injection hA' with e1 e2
    subst e1
    rcases h.off b k e with he | hn
    · rw [he] at hne
      exact absurd hne (Nat.lt_irrefl _)
    · exact ⟨hlt, hn⟩
/-- What is frozen, at the start of a law: F lies above. -/
theorem Kp.old {w w' : World} {F : Nat → Prop} {A : Option Addr} {n cap : Nat} {cs : List Value} (h : Sl w A n cap cs) (hu : Upd (fun _ => False) w w') (hF : ∀ k, F k → w.heap.size ≤ k) : Kp w' F A n cap cs :=
  (Kp.of_new (F := fun _ => False) h (fun _ _ _ h => h)).step hu (fun _ h => h.elim) (fun k hk => .inr (hF k hk))
/-- A cell of another block. -/
theorem cell_far {a b : Nat} (h : a ≠ b) (W : World) (i j : Nat) (u : Value) : (W.setCell ⟨b, j, none⟩ u).cell? ⟨a, i, none⟩ = W.cell? ⟨a, i, none⟩ :=
  World.cell?_of_block (Below.heap_setCell W ⟨b, j, none⟩ u a h)
/-- Five cells of a block, written one after the other. -/
abbrev W5 (W : World) (g : Nat) (b0 b1 b2 b3 b4 : Value) : World := ((((W.setCell ⟨g, 0, none⟩ b0).setCell ⟨g, 1, none⟩ b1).setCell ⟨g, 2, none⟩ b2).setCell ⟨g, 3, none⟩ b3).setCell ⟨g, 4, none⟩ b4
section
variable {w : World} {g : Nat} {t : TypeId} (b0 b1 b2 b3 b4 : Value)
theorem Blk.w5 {a0 a1 a2 a3 a4 : Value} (h : Blk w g t #[a0, a1, a2, a3, a4]) : Blk (W5 w g b0 b1 b2 b3 b4) g t #[b0, b1, b2, b3, b4] := by
  have := ((((h.set 0 b0).set 1 b1).set 2 b2).set 3 b3).set 4 b4
  simpa using this
theorem Blk.w5f {k : Nat} {cs : Array Value} (h : Blk w k t cs) (hne : k ≠ g) : Blk (W5 w g b0 b1 b2 b3 b4) k t cs :=
  ((((h.far (p := ⟨g, 0, none⟩) hne b0).far (p := ⟨g, 1, none⟩) hne b1).far (p := ⟨g, 2, none⟩) hne b2).far (p := ⟨g, 3, none⟩) hne b3).far (p := ⟨g, 4, none⟩) hne b4
theorem Upd.w5 {S : Nat → Prop} {a : World} (h : Upd S a w) (hp : S g ∨ a.heap.size ≤ g) : Upd S a (W5 w g b0 b1 b2 b3 b4) :=
  ((((h.set (p := ⟨g, 0, none⟩) hp b0).set (p := ⟨g, 1, none⟩) hp b1).set (p := ⟨g, 2, none⟩) hp b2).set (p := ⟨g, 3, none⟩) hp b3).set (p := ⟨g, 4, none⟩) hp b4
theorem Sl.w5 {A : Option Addr} {n cap : Nat} {cs : List Value} (h : Sl w A n cap cs) (hs : ∀ b o, A = some ⟨b, o, none⟩ → b ≠ g) : Sl (W5 w g b0 b1 b2 b3 b4) A n cap cs :=
  ((((h.far (p := ⟨g, 0, none⟩) hs b0).far (p := ⟨g, 1, none⟩) hs b1).far (p := ⟨g, 2, none⟩) hs b2).far (p := ⟨g, 3, none⟩) hs b3).far (p := ⟨g, 4, none⟩) hs b4
end
theorem cell_drew (W : World) (p : Addr) : W.drew.cell? p = W.cell? p := rfl
end Go.Proofs.Ytninaaolbgchpaa
