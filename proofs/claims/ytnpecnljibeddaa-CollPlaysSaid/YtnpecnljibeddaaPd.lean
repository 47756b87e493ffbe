/- CollPlays: the region that asks the document, by what is done of it. -/
import Derived.Test.YtnpecnljibeddaaRd
import Derived.Test.YtnpecnljibeddaaRe
import Derived.Test.YtnpecnljibeddaaSm
import Derived.Test.YtnpecnljibeddaaCw
import Derived.Test.YtnpecnljibeddaaId
namespace Go.Proofs.Ytnpecnljibeddaa
open Go.RowKit
set_option linter.unusedVariables false
set_option linter.unusedSimpArgs false

/-- What the document answered, and where it lies. -/
structure RV where
  g14 : Nat
  g15 : Nat
  e : Int
  A : Option Addr
  n : Nat
  c : Nat
  M : Option Addr
  m : Nat
  d : Nat
  X : Option Addr
  cx : Nat
  Y : Option Addr
  dy : Nat
abbrev Z6 : Array Value := #[.int .u64 0, .int .i64 0, .bool false, .int .u64 0, .slice none 0 0, .slice none 0 0]
abbrev Z5 : Array Value := #[.bool false, .bool false, .int .u64 0, .slice none 0 0, .slice none 0 0]
/-- The document's window. -/
abbrev RV.xv (v : RV) (win most : Int) (s : CSt) : Array Value := #[.int .u64 win, .int .i64 most, .bool s.isSome, .int .u64 v.e, .slice v.A v.n v.c, .slice v.M v.m v.d]
/-- The document's step. -/
abbrev RV.sv (v : RV) (op rd : Bool) (due : Int) (nb mb : Nat) : Array Value := #[.bool op, .bool rd, .int .u64 due, .slice v.X nb v.cx, .slice v.Y mb v.dy]
/-- What may be written while the region runs. -/
def Fx (F : Nat → Prop) (d14 d15 : Bool) (v : RV) : Nat → Prop := fun k => F k ∨ (d14 = true ∧ k = v.g14) ∨ (d15 = true ∧ k = v.g15)
abbrev W6s (W : World) (g : Nat) (b0 b1 b2 b3 b4 b5 : Value) : World := (((((W.setCell ⟨g, 0, none⟩ b0).setCell ⟨g, 1, none⟩ b1).setCell ⟨g, 2, none⟩ b2).setCell ⟨g, 3, none⟩ b3).setCell ⟨g, 4, none⟩ b4).setCell ⟨g, 5, none⟩ b5
theorem Blk.w6s {w : World} {g : Nat} {t : TypeId} {a0 a1 a2 a3 a4 a5 : Value} (b0 b1 b2 b3 b4 b5 : Value) (h : Blk w g t #[a0, a1, a2, a3, a4, a5]) : Blk (W6s w g b0 b1 b2 b3 b4 b5) g t #[b0, b1, b2, b3, b4, b5] := by
  have := (((((h.set 0 b0).set 1 b1).set 2 b2).set 3 b3).set 4 b4).set 5 b5
  simpa using this
theorem Upd.w6s {S : Nat → Prop} {a w : World} {g : Nat} (b0 b1 b2 b3 b4 b5 : Value) (h : Upd S a w) (hp : S g ∨ a.heap.size ≤ g) : Upd S a (W6s w g b0 b1 b2 b3 b4 b5) :=
  (((((h.set (p := ⟨g, 0, none⟩) hp b0).set (p := ⟨g, 1, none⟩) hp b1).set (p := ⟨g, 2, none⟩) hp b2).set (p := ⟨g, 3, none⟩) hp b3).set (p := ⟨g, 4, none⟩) hp b4).set (p := ⟨g, 5, none⟩) hp b5
structure P15 (w0 : World) (F : Nat → Prop) (win most : Int) (s' : CSt) (op rd : Bool) (due : Int) (b : BT) (nb mb : Nat) (dc dm dx dy d14 d15 s14 s15 : Bool) (r87 r74 r88 r89 r14 r15 : Value) (w : World) (v : RV) : Prop where
  upd : Upd (fun _ => False) w0 w
  p14 : d14 = true → r14 = .pointer (some ⟨v.g14, 0, none⟩) ∧ w0.heap.size ≤ v.g14 ∧ Blk w v.g14 32 (if s14 = true then v.xv win most s' else Z6)
  p15 : d15 = true → r15 = .pointer (some ⟨v.g15, 0, none⟩) ∧ w0.heap.size ≤ v.g15 ∧ Blk w v.g15 45 (if s15 = true then v.sv op rd due nb mb else Z5)
  c : dc = true → r87 = .tuple #[.agg (v.xv win most s'), .agg (v.sv op rd due nb mb)] ∧ RIs w (Fx F d14 d15 v) s' v.e v.A v.n v.c v.M v.m v.d ∧ Kp w (Fx F d14 d15 v) v.X nb v.cx (nums b.1) ∧ Kp w (Fx F d14 d15 v) v.Y mb v.dy (prs b.2)
  m : dm = true → r74 = .tuple #[.agg (v.xv win most s'), .agg (v.sv op rd due nb mb)]
  x : dx = true → r88 = .agg (v.xv win most s')
  y : dy = true → r89 = .agg (v.sv op rd due nb mb)
section
variable {w0 w w' : World} {F : Nat → Prop} {win most due : Int} {s' : CSt} {op rd : Bool} {b : BT} {nb mb : Nat} {dc dm dx dy d14 d15 s14 s15 : Bool} {r87 r74 r88 r89 r14 r15 : Value} {v : RV}
theorem P15.zero : P15 w0 F win most s' op rd due b nb mb false false false false false false false false r87 r74 r88 r89 r14 r15 w0 ⟨0, 0, 0, none, 0, 0, none, 0, 0, none, 0, none, 0⟩ :=
  ⟨Upd.refl _ _, (fun h => by cases h), (fun h => by cases h), (fun h => by cases h), (fun h => by cases h), (fun h => by cases h), (fun h => by cases h)⟩
theorem P15.fx_ge (h : P15 w0 F win most s' op rd due b nb mb dc dm dx dy d14 d15 s14 s15 r87 r74 r88 r89 r14 r15 w v) : ∀ k, Fx F d14 d15 v k → F k ∨ w0.heap.size ≤ k := fun k hk => by
  rcases hk with hk | ⟨h1, rfl⟩ | ⟨h1, rfl⟩
  · exact .inl hk
  · exact .inr (h.p14 h1).2.1
  · exact .inr (h.p15 h1).2.1
theorem P15.fx_lt (h : P15 w0 F win most s' op rd due b nb mb dc dm dx dy d14 d15 s14 s15 r87 r74 r88 r89 r14 r15 w v) (hlt : ∀ k, F k → k < w0.heap.size) : ∀ k, Fx F d14 d15 v k → k < w.heap.size := fun k hk => by
  rcases hk with hk | ⟨h1, rfl⟩ | ⟨h1, rfl⟩
  · exact Nat.lt_of_lt_of_le (hlt k hk) h.upd.size
  · exact (h.p14 h1).2.2.lt
  · exact (h.p15 h1).2.2.lt
theorem P15.alloc14 (h : P15 w0 F win most s' op rd due b nb mb dc dm dx dy false d15 false s15 r87 r74 r88 r89 r14 r15 w v) : P15 w0 F win most s' op rd due b nb mb dc dm dx dy true d15 false s15 r87 r74 r88 r89 (.pointer (some ⟨w.heap.size, 0, none⟩)) r15 (w.alloc (.cells Z6 32)) { v with g14 := w.heap.size } := by
  have hU := (Upd.refl (fun _ => False) w).alloc (.cells Z6 32)
  have hF : ∀ k, Fx F true d15 { v with g14 := w.heap.size } k → Fx F false d15 v k ∨ w.heap.size ≤ k := fun k hk => by
    rcases hk with hk | ⟨h1, rfl⟩ | ⟨h1, rfl⟩
    · exact .inl (.inl hk)
    · exact .inr (Nat.le_refl _)
    · exact .inl (.inr (.inr ⟨h1, rfl⟩))
  refine ⟨h.upd.alloc _, fun _ => ⟨rfl, h.upd.size, Blk.new _ _ _⟩, fun h1 => ⟨(h.p15 h1).1, (h.p15 h1).2.1, (h.p15 h1).2.2.alloc _⟩, fun h1 => ?_, h.m, h.x, h.y⟩
  obtain ⟨h2, h3, h4, h5⟩ := h.c h1
  exact ⟨h2, h3.step hU (fun _ h => h.elim) hF, h4.step hU (fun _ h => h.elim) hF, h5.step hU (fun _ h => h.elim) hF⟩
theorem P15.alloc15 (h : P15 w0 F win most s' op rd due b nb mb dc dm dx dy d14 false s14 false r87 r74 r88 r89 r14 r15 w v) : P15 w0 F win most s' op rd due b nb mb dc dm dx dy d14 true s14 false r87 r74 r88 r89 r14 (.pointer (some ⟨w.heap.size, 0, none⟩)) (w.alloc (.cells Z5 45)) { v with g15 := w.heap.size } := by
  have hU := (Upd.refl (fun _ => False) w).alloc (.cells Z5 45)
  have hF : ∀ k, Fx F d14 true { v with g15 := w.heap.size } k → Fx F d14 false v k ∨ w.heap.size ≤ k := fun k hk => by
    rcases hk with hk | ⟨h1, rfl⟩ | ⟨h1, rfl⟩
    · exact .inl (.inl hk)
    · exact .inl (.inr (.inl ⟨h1, rfl⟩))
    · exact .inr (Nat.le_refl _)
  refine ⟨h.upd.alloc _, fun h1 => ⟨(h.p14 h1).1, (h.p14 h1).2.1, (h.p14 h1).2.2.alloc _⟩, fun _ => ⟨rfl, h.upd.size, Blk.new _ _ _⟩, fun h1 => ?_, h.m, h.x, h.y⟩
  obtain ⟨h2, h3, h4, h5⟩ := h.c h1
  exact ⟨h2, h3.step hU (fun _ h => h.elim) hF, h4.step hU (fun _ h => h.elim) hF, h5.step hU (fun _ h => h.elim) hF⟩
theorem P15.call (h : P15 w0 F win most s' op rd due b nb mb false false false false d14 d15 false false r87 r74 r88 r89 r14 r15 w v) (hd : Below w.heap.size w w') {e : Int} {A : Option Addr} {n c : Nat} {M : Option Addr} {m d : Nat} {X : Option Addr} {cx : Nat} {Y : Option Addr} {dy : Nat}
    (hr : RIs w' (Fx F d14 d15 v) s' e A n c M m d) (hx : Kp w' (Fx F d14 d15 v) X nb cx (nums b.1)) (hy : Kp w' (Fx F d14 d15 v) Y mb dy (prs b.2)) :
    P15 w0 F win most s' op rd due b nb mb true false false false d14 d15 false false (.tuple #[.agg #[.int .u64 win, .int .i64 most, .bool s'.isSome, .int .u64 e, .slice A n c, .slice M m d], .agg #[.bool op, .bool rd, .int .u64 due, .slice X nb cx, .slice Y mb dy]]) r74 r88 r89 r14 r15 w' ⟨v.g14, v.g15, e, A, n, c, M, m, d, X, cx, Y, dy⟩ := by
  have hu := Upd.of_below hd (fun _ => False)
  exact ⟨h.upd.trans hu (fun _ h => h.elim), fun h1 => ⟨(h.p14 h1).1, (h.p14 h1).2.1, (h.p14 h1).2.2.upd hu (fun h => h)⟩, fun h1 => ⟨(h.p15 h1).1, (h.p15 h1).2.1, (h.p15 h1).2.2.upd hu (fun h => h)⟩, fun _ => ⟨rfl, hr, hx, hy⟩, (fun h => by cases h), (fun h => by cases h), (fun h => by cases h)⟩
theorem P15.mv (h : P15 w0 F win most s' op rd due b nb mb true dm dx dy d14 d15 s14 s15 r87 r74 r88 r89 r14 r15 w v) : P15 w0 F win most s' op rd due b nb mb true true dx dy d14 d15 s14 s15 r87 (.tuple #[.agg (v.xv win most s'), .agg (v.sv op rd due nb mb)]) r88 r89 r14 r15 w v :=
  ⟨h.upd, h.p14, h.p15, h.c, fun _ => rfl, h.x, h.y⟩
theorem P15.ex (h : P15 w0 F win most s' op rd due b nb mb dc true dx dy d14 d15 s14 s15 r87 r74 r88 r89 r14 r15 w v) : P15 w0 F win most s' op rd due b nb mb dc true true dy d14 d15 s14 s15 r87 r74 (.agg (v.xv win most s')) r89 r14 r15 w v :=
  ⟨h.upd, h.p14, h.p15, h.c, h.m, fun _ => rfl, h.y⟩
theorem P15.ey (h : P15 w0 F win most s' op rd due b nb mb dc true dx dy d14 d15 s14 s15 r87 r74 r88 r89 r14 r15 w v) : P15 w0 F win most s' op rd due b nb mb dc true dx true d14 d15 s14 s15 r87 r74 r88 (.agg (v.sv op rd due nb mb)) r14 r15 w v :=
  ⟨h.upd, h.p14, h.p15, h.c, h.m, h.x, fun _ => rfl⟩
theorem P15.store14 (h : P15 w0 F win most s' op rd due b nb mb dc dm dx dy true d15 false s15 r87 r74 r88 r89 r14 r15 w v) : P15 w0 F win most s' op rd due b nb mb dc dm dx dy true d15 true s15 r87 r74 r88 r89 r14 r15 (W6s w v.g14 (.int .u64 win) (.int .i64 most) (.bool s'.isSome) (.int .u64 v.e) (.slice v.A v.n v.c) (.slice v.M v.m v.d)) v := by
  obtain ⟨a1, a2, a3⟩ := h.p14 rfl
  have hU := Upd.w6s (.int .u64 win) (.int .i64 most) (.bool s'.isSome) (.int .u64 v.e) (.slice v.A v.n v.c) (.slice v.M v.m v.d) (Upd.refl (At v.g14) w) (.inl rfl)
  have hS : ∀ k, At v.g14 k → Fx F true d15 v k := fun k hk => .inr (.inl ⟨rfl, hk⟩)
  refine ⟨Upd.w6s _ _ _ _ _ _ h.upd (.inr a2), fun _ => ⟨a1, a2, Blk.w6s _ _ _ _ _ _ a3⟩, fun h1 => ⟨(h.p15 h1).1, (h.p15 h1).2.1, (h.p15 h1).2.2.upd hU (fun e => Blk.ne (h.p15 h1).2.2 a3 (by decide) e)⟩, fun h1 => ?_, h.m, h.x, h.y⟩
  obtain ⟨h2, h3, h4, h5⟩ := h.c h1
  exact ⟨h2, h3.step hU (fun k hk => .inl (hS k hk)) (fun k hk => .inl hk), h4.keep hU hS, h5.keep hU hS⟩
theorem P15.store15 (h : P15 w0 F win most s' op rd due b nb mb dc dm dx dy d14 true s14 false r87 r74 r88 r89 r14 r15 w v) : P15 w0 F win most s' op rd due b nb mb dc dm dx dy d14 true s14 true r87 r74 r88 r89 r14 r15 (W5 w v.g15 (.bool op) (.bool rd) (.int .u64 due) (.slice v.X nb v.cx) (.slice v.Y mb v.dy)) v := by
  obtain ⟨a1, a2, a3⟩ := h.p15 rfl
  have hU := Upd.w5 (.bool op) (.bool rd) (.int .u64 due) (.slice v.X nb v.cx) (.slice v.Y mb v.dy) (Upd.refl (At v.g15) w) (.inl rfl)
  have hS : ∀ k, At v.g15 k → Fx F d14 true v k := fun k hk => .inr (.inr ⟨rfl, hk⟩)
  refine ⟨Upd.w5 _ _ _ _ _ h.upd (.inr a2), fun h1 => ⟨(h.p14 h1).1, (h.p14 h1).2.1, (h.p14 h1).2.2.upd hU (fun e => Blk.ne (h.p14 h1).2.2 a3 (by decide) e)⟩, fun _ => ⟨a1, a2, Blk.w5 _ _ _ _ _ a3⟩, fun h1 => ?_, h.m, h.x, h.y⟩
  obtain ⟨h2, h3, h4, h5⟩ := h.c h1
  exact ⟨h2, h3.step hU (fun k hk => .inl (hS k hk)) (fun k hk => .inl hk), h4.keep hU hS, h5.keep hU hS⟩
end
end Go.Proofs.Ytnpecnljibeddaa
