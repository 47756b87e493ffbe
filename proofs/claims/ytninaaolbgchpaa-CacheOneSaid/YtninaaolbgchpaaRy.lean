/- A cache behind deeds: what is said of it. -/
import Derived.Test.YtninaaolbgchpaaDo
namespace Go.Proofs.Ytninaaolbgchpaa
open Go.RowKit
open Go.Maps (Keyed IsMap Tidy)
set_option linter.unusedVariables false
set_option linter.unusedSimpArgs false

abbrev D8 := Int × Int × K3 × K3
def d8 (x : D8) : List Value := [.int .i64 x.1, .int .i64 x.2.1, .int .i64 x.2.2.1.1, .int .i64 x.2.2.1.2.1, .int .i64 x.2.2.1.2.2, .int .i64 x.2.2.2.1, .int .i64 x.2.2.2.2.1, .int .i64 x.2.2.2.2.2]
theorem d8_len (x : D8) : (d8 x).length = 8 := rfl
abbrev d8s : List Lf := [.int .i64, .int .i64, .int .i64, .int .i64, .int .i64, .int .i64, .int .i64, .int .i64]
def dok (x : D8) : Prop := kok x.2.2.1 ∧ iok x.2.1
theorem d8_dec (row : List Value) (h : Oks d8s row) : ∃ a, row = d8 a ∧ dok a := by
  obtain ⟨v0, r0, e0, ⟨a0, rfl, h0⟩, g0⟩ := h.cons
  obtain ⟨v1, r1, e1, ⟨a1, rfl, h1⟩, g1⟩ := g0.cons
  obtain ⟨v2, r2, e2, ⟨a2, rfl, h2⟩, g2⟩ := g1.cons
  obtain ⟨v3, r3, e3, ⟨a3, rfl, h3⟩, g3⟩ := g2.cons
  obtain ⟨v4, r4, e4, ⟨a4, rfl, h4⟩, g4⟩ := g3.cons
  obtain ⟨v5, r5, e5, ⟨a5, rfl, h5⟩, g5⟩ := g4.cons
  obtain ⟨v6, r6, e6, ⟨a6, rfl, h6⟩, g6⟩ := g5.cons
  obtain ⟨v7, r7, e7, ⟨a7, rfl, h7⟩, g7⟩ := g6.cons
  have := g7.nil
  subst this
  exact ⟨(a0, a1, (a2, a3, a4), (a5, a6, a7)), by rw [e0, e1, e2, e3, e4, e5, e6, e7]; rfl, ⟨h2, h3, h4⟩, h1⟩
/-- What the cache holds behind deeds. -/
def st (l : List D8) : List En × List J2 := l.foldl (fun s x => (dE s.1 x.1 x.2.1 x.2.2.1 x.2.2.2, dJ s.1 s.2 x.1 x.2.1 x.2.2.1)) ([], [])
theorem st_take {l : List D8} {k : Nat} {x : D8} (h : l[k]? = some x) : st (l.take (k + 1)) = (dE (st (l.take k)).1 x.1 x.2.1 x.2.2.1 x.2.2.2, dJ (st (l.take k)).1 (st (l.take k)).2 x.1 x.2.1 x.2.2.1) := by
  unfold st
  rw [take_snoc h, List.foldl_append]
  rfl
section
variable {base g bk bj N tb x0 n c m d : Nat} {F F' : Nat → Prop} {E : List En} {J : List J2} {A B : Option Addr}
structure Aft2 (wr W : World) (base g bk bj tb x0 : Nat) (F F' : Nat → Prop) (E : List En) (J : List J2) (N : Nat) (A : Option Addr) (n c : Nat) (B : Option Addr) (m d : Nat) : Prop where
  cs_ : CS W base g bk bj F' E J N
  sub : ∀ x, F' x → F x ∨ wr.heap.size ≤ x
  upd : Upd F wr W
  box : Blk W tb 29 #[.slice A n c, .slice B m d]
  ha : Kp W (fun x => F' x ∨ At x0 x) A n c (fl e8 E)
  hb : Kp W (fun x => F' x ∨ At x0 x) B m d (prs J)
theorem aft2_1 {wr v w6 : World} {y0 y1 : Value} (h : CS w6 base g bk bj F' E J N) (hs : ∀ x, F' x → F x ∨ v.heap.size ≤ x) (hv : Upd (fun _ => False) wr v) (h1 : wr.heap.size ≤ tb) (hu : Upd F v w6) (hb : Blk w6 tb 29 #[y0, y1])
    (hA : Kp w6 (fun x => F' x ∨ (At x0 x ∨ At tb x)) A n c (fl e8 E)) (hB : Kp w6 (fun x => F' x ∨ (At x0 x ∨ At tb x)) B m d (prs J)) :
    Aft2 wr ((w6.setCell ⟨tb, 0, none⟩ (.slice A n c)).setCell ⟨tb, 1, none⟩ (.slice B m d)) base g bk bj tb x0 F F' E J N A n c B m d := by
  have hw : Upd (At tb) w6 ((w6.setCell ⟨tb, 0, none⟩ (.slice A n c)).setCell ⟨tb, 1, none⟩ (.slice B m d)) := ((Upd.refl (At tb) w6).put 0 _).put 1 _
  refine ⟨h.boxT hb (by decide) (by decide) (by decide) hw, fun x hx => (hs x hx).imp _root_.id (fun h => Nat.le_trans hv.size h), ((hv.mono (fun _ h => h.elim)).trans hu (fun _ h => .inl h)).trans hw (fun x e => .inr (by rw [show x = tb from e]; exact h1)), ?_, (hA.keep hw (fun _ h => .inr (.inr h))).step (Upd.refl (fun _ => False) _) (fun _ h => h.elim) (fun _ h => .inl (h.imp _root_.id .inl)), (hB.keep hw (fun _ h => .inr (.inr h))).step (Upd.refl (fun _ => False) _) (fun _ h => h.elim) (fun _ h => .inl (h.imp _root_.id .inl))⟩
  have := (hb.set 0 (.slice A n c)).set 1 (.slice B m d)
  simpa using this
theorem aft2_2 {wr v w6 : World} (h : CS w6 base g bk bj F' E J N) (hs : ∀ x, F' x → F x ∨ v.heap.size ≤ x) (hv : Upd (fun _ => False) wr v) (hu : Upd F v w6) (hA : Kp w6 (fun x => F' x ∨ At x0 x) A n c (fl e8 E)) (hB : Kp w6 (fun x => F' x ∨ At x0 x) B m d (prs J)) :
    Aft2 wr (w6.alloc (.cells #[.slice A n c, .slice B m d] 29)) base g bk bj w6.heap.size x0 F F' E J N A n c B m d :=
  ⟨h.upd0 ((Upd.refl _ _).alloc _), fun x hx => (hs x hx).imp _root_.id (fun h => Nat.le_trans hv.size h), ((hv.mono (fun _ h => h.elim)).trans hu (fun _ h => .inl h)).alloc _, Blk.new _ _ _, hA.keep0 ((Upd.refl _ _).alloc _), hB.keep0 ((Upd.refl _ _).alloc _)⟩
/-- The document's box is written. -/
theorem Aft2.put {wr W : World} {y0 y1 : Value} (h : Aft2 wr W base g bk bj tb x0 F F' E J N A n c B m d) (hb : Blk W x0 29 #[y0, y1]) :
    CS ((W.setCell ⟨x0, 0, none⟩ (.slice A n c)).setCell ⟨x0, 1, none⟩ (.slice B m d)) base g bk bj F' E J N ∧ Upd (At x0) W ((W.setCell ⟨x0, 0, none⟩ (.slice A n c)).setCell ⟨x0, 1, none⟩ (.slice B m d)) ∧
    Blk ((W.setCell ⟨x0, 0, none⟩ (.slice A n c)).setCell ⟨x0, 1, none⟩ (.slice B m d)) x0 29 #[.slice A n c, .slice B m d] ∧ Kp ((W.setCell ⟨x0, 0, none⟩ (.slice A n c)).setCell ⟨x0, 1, none⟩ (.slice B m d)) (fun x => F' x ∨ At x0 x) A n c (fl e8 E) ∧ Kp ((W.setCell ⟨x0, 0, none⟩ (.slice A n c)).setCell ⟨x0, 1, none⟩ (.slice B m d)) (fun x => F' x ∨ At x0 x) B m d (prs J) := by
  have hw : Upd (At x0) W ((W.setCell ⟨x0, 0, none⟩ (.slice A n c)).setCell ⟨x0, 1, none⟩ (.slice B m d)) := ((Upd.refl (At x0) W).put 0 _).put 1 _
  refine ⟨h.cs_.boxT hb (by decide) (by decide) (by decide) hw, hw, ?_, h.ha.keep hw (fun _ h => .inr h), h.hb.keep hw (fun _ h => .inr h)⟩
  have := (hb.set 0 (.slice A n c)).set 1 (.slice B m d)
  simpa using this
end
end Go.Proofs.Ytninaaolbgchpaa
