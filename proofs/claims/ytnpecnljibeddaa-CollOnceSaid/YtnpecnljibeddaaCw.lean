/- A law's walk over a window: what stays; awake. -/
import Derived.Test.YtnpecnljibeddaaCb
import Derived.Test.YtnpecnljibeddaaBu
namespace Go.Proofs.Ytnpecnljibeddaa
open Go.RowKit
attribute [local go_sem ↓] Go.wp_at_zero Go.wp_at_succ
set_option linter.unusedVariables false
set_option linter.unusedSimpArgs false

/-- A law's world: the window, what may be written, and what was. -/
structure CW (w0 w : World) (F : Nat → Prop) (g : Nat) (p : Option Nat) (win most : Int) (s : CSt) : Prop where
  isC : IsC w F g p win most s
  base : ∀ k, F k → w0.heap.size ≤ k
  upd : Upd (fun _ => False) w0 w
/-- What may be written behind a deed. -/
abbrev Nx (F : Nat → Prop) (p : Option Nat) : Nat → Prop := fun k => F k ∨ p = some k
section
variable {w0 w w' : World} {F F' : Nat → Prop} {g : Nat} {p p' : Option Nat} {win most : Int} {s s' : CSt} {A M : Option Addr} {n c m d : Nat} {b : BT}
theorem CW.keep0 (h : CW w0 w F g p win most s) (hu : Upd (fun _ => False) w w') : CW w0 w' F g p win most s := ⟨h.isC.keep0 hu, h.base, h.upd.trans hu (fun _ h => h.elim)⟩
theorem CW.nx (h : CW w0 w F g p win most s) (hp : CPost w w' F g p p' win most s' A M n c m d b) : ∀ k, Nx F p' k → F k ∨ w.heap.size ≤ k := fun k hk => hk.elim .inl (fun h1 => (hp.pn k h1).elim (fun h2 => .inl (h.isC.opn k h2)) .inr)
theorem CW.next (h : CW w0 w F g p win most s) (hp : CPost w w' F g p p' win most s' A M n c m d b) : CW w0 w' (Nx F p') g p' win most s' :=
  ⟨hp.isC, fun k hk => (h.nx hp k hk).elim (h.base k) (fun h1 => Nat.le_trans h.upd.size h1), h.upd.trans hp.upd (fun k hk => .inr (h.base k (h.isC.fr k hk)))⟩
theorem CW.kp {X : Option Addr} {x y : Nat} {cs : List Value} (h : CW w0 w F g p win most s) (hp : CPost w w' F g p p' win most s' A M n c m d b) (hk : Kp w F X x y cs) : Kp w' (Nx F p') X x y cs :=
  hk.step hp.upd (fun k hk => .inl (h.isC.fr k hk)) (h.nx hp)
theorem IsC.ne_blk (h : IsC w F g p win most s) {k : Nat} {t : TypeId} {cs : Array Value} (hb : Blk w k t cs) (h1 : t ≠ 69) (h2 : t ≠ 72) : ¬ Fr2 g p k := by
  intro hf
  obtain ⟨q, hq, _⟩ := h.blk
  rcases hf with rfl | hf
  · exact (Blk.ne hb hq h1) rfl
  · cases s with
    | none => have := h.st.1; rw [this] at hf; cases hf
    | some be =>
      obtain ⟨bb, e⟩ := be
      obtain ⟨o, A, c, M, d, rfl, p1, p2, b1, b2, k1, k2⟩ := h.st
      injection hf with hf
      subst hf
      exact (Blk.ne hb b2 h2) rfl
theorem CW.blk {k : Nat} {t : TypeId} {cs : Array Value} (h : CW w0 w F g p win most s) (hp : CPost w w' F g p p' win most s' A M n c m d b) (hb : Blk w k t cs) (h1 : t ≠ 69) (h2 : t ≠ 72) : Blk w' k t cs :=
  hb.upd hp.upd (h.isC.ne_blk hb h1 h2)
theorem CW.old {X : Option Addr} {x y : Nat} {cs : List Value} (h : CW w0 w F g p win most s) (hs : Sl w0 X x y cs) : Kp w F X x y cs := Kp.old hs h.upd h.base
theorem CW.own {ob : Nat} {e : TypeId} {size k : Nat} {v : Value} {xs : List Value} (h : CW w0 w F g p win most s) (hp : CPost w w' F g p p' win most s' A M n c m d b) (ho : w.ownsRow ob e size v k xs) (h1 : e ≠ 69) (h2 : e ≠ 72) : w'.ownsRow ob e size v k xs :=
  own_upd ho hp.upd (h.isC.ne_own ho h1 h2)
theorem CW.start {w1 : World} (h : IsC w (fun k => k = g) g none win most none) (hu : Upd (fun _ => False) w0 w1) (hg : w1.heap.size ≤ g) (hd : Below w1.heap.size w1 w) : CW w0 w (fun k => k = g) g none win most none :=
  ⟨h, (fun k hk => by subst hk; exact Nat.le_trans hu.size hg), hu.trans (Upd.of_below hd (fun _ => False)) (fun _ h => h.elim)⟩
end
theorem CW.grow {w0 w w' : World} {F F' : Nat → Prop} {g : Nat} {p : Option Nat} {win most : Int} {s : CSt} (h : CW w0 w F g p win most s) (hu : Upd (fun _ => False) w w') (hF : ∀ k, F' k → F k ∨ (w.heap.size ≤ k ∧ k < w'.heap.size)) (hm : ∀ k, F k → F' k) : CW w0 w' F' g p win most s :=
  ⟨h.isC.keep hu (fun _ _ h => h) (fun _ h => h.elim) (fun k hk => (hF k hk).imp (fun x => x) (fun x => x.1)) (fun k hk => (hF k hk).elim (fun h1 => Nat.lt_of_lt_of_le (h.isC.lt k h1) hu.size) (fun h1 => h1.2)) hm, fun k hk => (hF k hk).elim (h.base k) (fun h1 => Nat.le_trans h.upd.size h1.1), h.upd.trans hu (fun _ h => h.elim)⟩
theorem CW.write {w0 w w' : World} {F S : Nat → Prop} {g : Nat} {p : Option Nat} {win most : Int} {s : CSt} (h : CW w0 w F g p win most s) (hu : Upd S w w') (hS : ∀ k, S k → F k) (hn : ∀ k, Fr2 g p k → ¬ S k) : CW w0 w' F g p win most s :=
  ⟨h.isC.keep hu hn (fun k hk => .inl (hS k hk)) (fun _ h => .inl h) (fun k hk => Nat.lt_of_lt_of_le (h.isC.lt k hk) hu.size) (fun _ h => h), h.base, h.upd.trans hu (fun k hk => .inr (h.base k (hS k hk)))⟩
theorem CW.wg {w0 w w' : World} {F F' S : Nat → Prop} {g : Nat} {p : Option Nat} {win most : Int} {s : CSt} (h : CW w0 w F g p win most s) (hu : Upd S w w') (hS : ∀ k, S k → F k) (hn : ∀ k, Fr2 g p k → ¬ S k) (hF : ∀ k, F' k → F k ∨ (w.heap.size ≤ k ∧ k < w'.heap.size)) (hm : ∀ k, F k → F' k) : CW w0 w' F' g p win most s :=
  ⟨h.isC.keep hu hn (fun k hk => .inl (hS k hk)) (fun k hk => (hF k hk).imp (fun x => x) (fun x => x.1)) (fun k hk => (hF k hk).elim (fun h1 => Nat.lt_of_lt_of_le (h.isC.lt k h1) hu.size) (fun h1 => h1.2)) hm, fun k hk => (hF k hk).elim (h.base k) (fun h1 => Nat.le_trans h.upd.size h1.1), h.upd.trans hu (fun k hk => .inr (h.base k (hS k hk)))⟩
theorem Kp.wg {w w' : World} {F F' S : Nat → Prop} {X : Option Addr} {x y : Nat} {cs : List Value} (h : Kp w F X x y cs) (hu : Upd S w w') (hS : ∀ k, S k → F k) (hF : ∀ k, F' k → F k ∨ (w.heap.size ≤ k ∧ k < w'.heap.size)) : Kp w' F' X x y cs :=
  h.step hu (fun k hk => .inl (hS k hk)) (fun k hk => (hF k hk).imp (fun x => x) (fun x => x.1))
theorem Kp.grow {w w' : World} {F F' : Nat → Prop} {X : Option Addr} {x y : Nat} {cs : List Value} (h : Kp w F X x y cs) (hu : Upd (fun _ => False) w w') (hF : ∀ k, F' k → F k ∨ (w.heap.size ≤ k ∧ k < w'.heap.size)) : Kp w' F' X x y cs :=
  h.step hu (fun _ h => h.elim) (fun k hk => (hF k hk).imp (fun x => x) (fun x => x.1))
/-- One more block may be written. -/
abbrev Pl (F : Nat → Prop) (b : Nat) : Nat → Prop := fun k => F k ∨ k = b
theorem pl_new {F : Nat → Prop} (w : World) (o : Obj) : ∀ k, Pl F w.heap.size k → F k ∨ (w.heap.size ≤ k ∧ k < (w.alloc o).drew.heap.size) := fun k hk => hk.imp (fun x => x) (fun e => by subst e; exact ⟨Nat.le_refl _, by simp⟩)
theorem pl_new' {F : Nat → Prop} (w : World) (o : Obj) : ∀ k, Pl F w.heap.size k → F k ∨ (w.heap.size ≤ k ∧ k < (w.alloc o).heap.size) := fun k hk => hk.imp (fun x => x) (fun e => by subst e; exact ⟨Nat.le_refl _, by simp⟩)
theorem cexp_lt {b : BT} {e now : Int} (h : now < e) : cexp (some (b, e)) now = (some (b, e), ([], []), false) := if_pos h
theorem cexp_ge {b : BT} {e now : Int} (h : ¬ now < e) : cexp (some (b, e)) now = (none, b, true) := if_neg h
theorem w64_n {a : Int} (h : decide (0 ≤ a) = true ∧ decide (a ≤ 18446744073709551615) = true) : W64 a := ⟨of_decide_eq_true h.1, of_decide_eq_true h.2⟩
end Go.Proofs.Ytnpecnljibeddaa
