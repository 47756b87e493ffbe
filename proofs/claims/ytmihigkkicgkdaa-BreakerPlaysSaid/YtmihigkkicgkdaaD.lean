/- A deed of both. -/
import Derived.Test.YtmihigkkicgkdaaR
namespace Go.Proofs.Ytmihigkkicgkdaa
open Go.RowKit
set_option linter.unusedVariables false

set_option maxHeartbeats 1000000 in
theorem do_ask (g : Nat) (b b2 : B) (n : Int) (t T : Int) (ok : Bool) (w : World) (h : IsB w g b)
    (A : ∀ W, IsB W g b → Calls Try.prog 14 #[.pointer (some ⟨g, 0, none⟩), .int .u64 t] W fun e w' => e = .returned (.int .i64 n) ∧ IsB w' g b2 ∧ Upd (At g) W w')
    (R : ∀ W, Calls Try.prog 24 #[.agg b.cells, .int .u64 t] W fun e w' => e = .returned (.tuple #[.agg b2.cells, .int .i64 n]) ∧ Below W.heap.size W w') :
    Calls Try.prog 18 #[.pointer (some ⟨g, 0, none⟩), .agg b.cells, .int .u64 t, .agg #[.int .i64 1, .int .u64 T, .bool ok]] w fun e w' =>
      e = .returned (.tuple #[.agg b2.cells, .bool true]) ∧ IsB w' g b2 ∧ Upd (At g) w w' := by
  have hlt := h.lt
  have H := Lib.hid h
  have HA := Lib.hid A
  obtain ⟨s, u, p, q⟩ := b
  obtain ⟨s2, u2, p2, q2⟩ := b2
  have HR : Hid (∀ W, Calls Try.prog 24 #[.agg #[.int .i64 s, .int .u64 u, .int .u64 p, .int .i64 q], .int .u64 t] W fun e w' => e = .returned (.tuple #[.agg #[.int .i64 s2, .int .u64 u2, .int .u64 p2, .int .i64 q2], .int .i64 n]) ∧ Below W.heap.size W w') := R
  clear h A R
  show Calls Try.prog 18 #[.pointer (some ⟨g, 0, none⟩), .agg #[.int .i64 s, .int .u64 u, .int .u64 p, .int .i64 q], .int .u64 t, .agg #[.int .i64 1, .int .u64 T, .bool ok]] w _
  go_enter Try.func18, Try.ntmps18
  go_wp2_with fail
  refine (HA.out _ (((H.out.alloc _).alloc _).alloc _)).mono ?_
  rintro e w1 ⟨rfl, hb1, hu1⟩
  have hs1 : w.heap.size + 2 < w1.heap.size := by have := hu1.size; simp at this; omega
  have bx : Blk w1 w.heap.size 38 #[.int .i64 s, .int .u64 u, .int .u64 p, .int .i64 q] := (((Blk.new w _ _).alloc _).alloc _).upd hu1 (by unfold At; omega)
  have bd : Blk w1 (w.heap.size + 1) 41 #[.int .i64 1, .int .u64 T, .bool ok] := by
    have h := (Blk.new (w.alloc (.cells #[.int .i64 s, .int .u64 u, .int .u64 p, .int .i64 q] 38)) #[.int .i64 1, .int .u64 T, .bool ok] 41).alloc (.cells #[.int .i64 0, .int .u64 0, .int .u64 0, .int .i64 0] 38)
    simp only [World.size_alloc] at h
    exact h.upd hu1 (by unfold At; omega)
  have bz : Blk w1 (w.heap.size + 1 + 1) 38 #[.int .i64 0, .int .u64 0, .int .u64 0, .int .i64 0] := by
    have h := Blk.new ((w.alloc (.cells #[.int .i64 s, .int .u64 u, .int .u64 p, .int .i64 q] 38)).alloc (.cells #[.int .i64 1, .int .u64 T, .bool ok] 41)) #[.int .i64 0, .int .u64 0, .int .u64 0, .int .i64 0] 38
    simp only [World.size_alloc] at h
    exact h.upd hu1 (by unfold At; omega)
  have cx := bx.cell
  have cd := bd.cell
  have HX := Lib.hid (And.intro bz (And.intro hb1 hu1))
  clear bx bd bz hb1 hu1
  go_wp2_with fail
  refine (HR.out _).mono ?_
  rintro e w2 ⟨rfl, hd2⟩
  have hs2 : w.heap.size + 2 < w2.heap.size := by have := hd2.size; omega
  have bz := HX.out.1.upd (Upd.of_below hd2 (fun _ => False)) (fun h => h)
  have cz := bz.cell
  have fz := bz.frz
  have HB1 := Lib.hid (HX.out.2.1.upd (Upd.of_below hd2 (fun _ => False)) (fun h => h))
  have HU := Lib.hid ((((((Upd.refl (At g) w).alloc _).alloc _).alloc _).trans HX.out.2.2 (fun _ h => .inl h)).trans (Upd.of_below hd2 (fun _ => False)) (fun _ h => h.elim))
  have HZ := Lib.hid bz
  have hgw : g ≠ w.heap.size + 1 + 1 := by omega
  have hle : w.heap.size ≤ w.heap.size + 1 + 1 := by omega
  clear bz hd2
  go_wp2_with fail
  refine bodyPost_ret (v := .tuple #[.agg #[.int .i64 s2, .int .u64 u2, .int .u64 p2, .int .i64 q2], .bool true]) (by simp [results, Try.results18, go_sem, hs2, cz]) rfl ⟨rfl, ?_, ?_⟩
  · exact ((((HB1.out.far hgw _).far hgw _).far hgw _).far hgw _).alloc _
  · exact ((((HU.out.set (.inr hle) _).set (.inr hle) _).set (.inr hle) _).set (.inr hle) _).alloc _

set_option maxHeartbeats 1000000 in
theorem do_trip (g : Nat) (b b2 : B) (n : Bool) (t T : Int) (ok : Bool) (w : World) (h : IsB w g b)
    (A : ∀ W, IsB W g b → Calls Try.prog 12 #[.pointer (some ⟨g, 0, none⟩), .int .u64 t] W fun e w' => e = .returned (.bool n) ∧ IsB w' g b2 ∧ Upd (At g) W w')
    (R : ∀ W, Calls Try.prog 25 #[.agg b.cells, .int .u64 t] W fun e w' => e = .returned (.tuple #[.agg b2.cells, .bool n]) ∧ Below W.heap.size W w') :
    Calls Try.prog 18 #[.pointer (some ⟨g, 0, none⟩), .agg b.cells, .int .u64 t, .agg #[.int .i64 2, .int .u64 T, .bool ok]] w fun e w' =>
      e = .returned (.tuple #[.agg b2.cells, .bool true]) ∧ IsB w' g b2 ∧ Upd (At g) w w' := by
  have hlt := h.lt
  have H := Lib.hid h
  have HA := Lib.hid A
  obtain ⟨s, u, p, q⟩ := b
  obtain ⟨s2, u2, p2, q2⟩ := b2
  have HR : Hid (∀ W, Calls Try.prog 25 #[.agg #[.int .i64 s, .int .u64 u, .int .u64 p, .int .i64 q], .int .u64 t] W fun e w' => e = .returned (.tuple #[.agg #[.int .i64 s2, .int .u64 u2, .int .u64 p2, .int .i64 q2], .bool n]) ∧ Below W.heap.size W w') := R
  clear h A R
  show Calls Try.prog 18 #[.pointer (some ⟨g, 0, none⟩), .agg #[.int .i64 s, .int .u64 u, .int .u64 p, .int .i64 q], .int .u64 t, .agg #[.int .i64 2, .int .u64 T, .bool ok]] w _
  go_enter Try.func18, Try.ntmps18
  go_wp2_with fail
  refine (HA.out _ (((H.out.alloc _).alloc _).alloc _)).mono ?_
  rintro e w1 ⟨rfl, hb1, hu1⟩
  have hs1 : w.heap.size + 2 < w1.heap.size := by have := hu1.size; simp at this; omega
  have bx : Blk w1 w.heap.size 38 #[.int .i64 s, .int .u64 u, .int .u64 p, .int .i64 q] := (((Blk.new w _ _).alloc _).alloc _).upd hu1 (by unfold At; omega)
  have bd : Blk w1 (w.heap.size + 1) 41 #[.int .i64 2, .int .u64 T, .bool ok] := by
    have h := (Blk.new (w.alloc (.cells #[.int .i64 s, .int .u64 u, .int .u64 p, .int .i64 q] 38)) #[.int .i64 2, .int .u64 T, .bool ok] 41).alloc (.cells #[.int .i64 0, .int .u64 0, .int .u64 0, .int .i64 0] 38)
    simp only [World.size_alloc] at h
    exact h.upd hu1 (by unfold At; omega)
  have bz : Blk w1 (w.heap.size + 1 + 1) 38 #[.int .i64 0, .int .u64 0, .int .u64 0, .int .i64 0] := by
    have h := Blk.new ((w.alloc (.cells #[.int .i64 s, .int .u64 u, .int .u64 p, .int .i64 q] 38)).alloc (.cells #[.int .i64 2, .int .u64 T, .bool ok] 41)) #[.int .i64 0, .int .u64 0, .int .u64 0, .int .i64 0] 38
    simp only [World.size_alloc] at h
    exact h.upd hu1 (by unfold At; omega)
  have cx := bx.cell
  have cd := bd.cell
  have HX := Lib.hid (And.intro bz (And.intro hb1 hu1))
  clear bx bd bz hb1 hu1
  go_wp2_with fail
  refine (HR.out _).mono ?_
  rintro e w2 ⟨rfl, hd2⟩
  have hs2 : w.heap.size + 2 < w2.heap.size := by have := hd2.size; omega
  have bz := HX.out.1.upd (Upd.of_below hd2 (fun _ => False)) (fun h => h)
  have cz := bz.cell
  have fz := bz.frz
  have HB1 := Lib.hid (HX.out.2.1.upd (Upd.of_below hd2 (fun _ => False)) (fun h => h))
  have HU := Lib.hid ((((((Upd.refl (At g) w).alloc _).alloc _).alloc _).trans HX.out.2.2 (fun _ h => .inl h)).trans (Upd.of_below hd2 (fun _ => False)) (fun _ h => h.elim))
  have HZ := Lib.hid bz
  have hgw : g ≠ w.heap.size + 1 + 1 := by omega
  have hle : w.heap.size ≤ w.heap.size + 1 + 1 := by omega
  clear bz hd2
  go_wp2_with fail
  refine bodyPost_ret (v := .tuple #[.agg #[.int .i64 s2, .int .u64 u2, .int .u64 p2, .int .i64 q2], .bool true]) (by simp [results, Try.results18, go_sem, hs2, cz]) rfl ⟨rfl, ?_, ?_⟩
  · exact ((((HB1.out.far hgw _).far hgw _).far hgw _).far hgw _).alloc _
  · exact ((((HU.out.set (.inr hle) _).set (.inr hle) _).set (.inr hle) _).set (.inr hle) _).alloc _

set_option maxHeartbeats 1000000 in
theorem do_fin (g : Nat) (b b2 : B) (n : Bool) (t T : Int) (ok : Bool) (w : World) (h : IsB w g b)
    (A : ∀ W, IsB W g b → Calls Try.prog 15 #[.pointer (some ⟨g, 0, none⟩), .int .u64 t, .bool ok] W fun e w' => e = .returned (.bool n) ∧ IsB w' g b2 ∧ Upd (At g) W w')
    (R : ∀ W, Calls Try.prog 26 #[.agg b.cells, .int .u64 t, .bool ok] W fun e w' => e = .returned (.tuple #[.agg b2.cells, .bool n]) ∧ Below W.heap.size W w') :
    Calls Try.prog 18 #[.pointer (some ⟨g, 0, none⟩), .agg b.cells, .int .u64 t, .agg #[.int .i64 3, .int .u64 T, .bool ok]] w fun e w' =>
      e = .returned (.tuple #[.agg b2.cells, .bool true]) ∧ IsB w' g b2 ∧ Upd (At g) w w' := by
  have hlt := h.lt
  have H := Lib.hid h
  have HA := Lib.hid A
  obtain ⟨s, u, p, q⟩ := b
  obtain ⟨s2, u2, p2, q2⟩ := b2
  have HR : Hid (∀ W, Calls Try.prog 26 #[.agg #[.int .i64 s, .int .u64 u, .int .u64 p, .int .i64 q], .int .u64 t, .bool ok] W fun e w' => e = .returned (.tuple #[.agg #[.int .i64 s2, .int .u64 u2, .int .u64 p2, .int .i64 q2], .bool n]) ∧ Below W.heap.size W w') := R
  clear h A R
  show Calls Try.prog 18 #[.pointer (some ⟨g, 0, none⟩), .agg #[.int .i64 s, .int .u64 u, .int .u64 p, .int .i64 q], .int .u64 t, .agg #[.int .i64 3, .int .u64 T, .bool ok]] w _
  go_enter Try.func18, Try.ntmps18
  go_wp2_with fail
  refine (HA.out _ (((H.out.alloc _).alloc _).alloc _)).mono ?_
  rintro e w1 ⟨rfl, hb1, hu1⟩
  have hs1 : w.heap.size + 2 < w1.heap.size := by have := hu1.size; simp at this; omega
  have bx : Blk w1 w.heap.size 38 #[.int .i64 s, .int .u64 u, .int .u64 p, .int .i64 q] := (((Blk.new w _ _).alloc _).alloc _).upd hu1 (by unfold At; omega)
  have bd : Blk w1 (w.heap.size + 1) 41 #[.int .i64 3, .int .u64 T, .bool ok] := by
    have h := (Blk.new (w.alloc (.cells #[.int .i64 s, .int .u64 u, .int .u64 p, .int .i64 q] 38)) #[.int .i64 3, .int .u64 T, .bool ok] 41).alloc (.cells #[.int .i64 0, .int .u64 0, .int .u64 0, .int .i64 0] 38)
    simp only [World.size_alloc] at h
    exact h.upd hu1 (by unfold At; omega)
  have bz : Blk w1 (w.heap.size + 1 + 1) 38 #[.int .i64 0, .int .u64 0, .int .u64 0, .int .i64 0] := by
    have h := Blk.new ((w.alloc (.cells #[.int .i64 s, .int .u64 u, .int .u64 p, .int .i64 q] 38)).alloc (.cells #[.int .i64 3, .int .u64 T, .bool ok] 41)) #[.int .i64 0, .int .u64 0, .int .u64 0, .int .i64 0] 38
    simp only [World.size_alloc] at h
    exact h.upd hu1 (by unfold At; omega)
  have cx := bx.cell
  have cd := bd.cell
  have HX := Lib.hid (And.intro bz (And.intro hb1 hu1))
  clear bx bd bz hb1 hu1
  go_wp2_with fail
  refine (HR.out _).mono ?_
  rintro e w2 ⟨rfl, hd2⟩
  have hs2 : w.heap.size + 2 < w2.heap.size := by have := hd2.size; omega
  have bz := HX.out.1.upd (Upd.of_below hd2 (fun _ => False)) (fun h => h)
  have cz := bz.cell
  have fz := bz.frz
  have HB1 := Lib.hid (HX.out.2.1.upd (Upd.of_below hd2 (fun _ => False)) (fun h => h))
  have HU := Lib.hid ((((((Upd.refl (At g) w).alloc _).alloc _).alloc _).trans HX.out.2.2 (fun _ h => .inl h)).trans (Upd.of_below hd2 (fun _ => False)) (fun _ h => h.elim))
  have HZ := Lib.hid bz
  have hgw : g ≠ w.heap.size + 1 + 1 := by omega
  have hle : w.heap.size ≤ w.heap.size + 1 + 1 := by omega
  clear bz hd2
  go_wp2_with fail
  refine bodyPost_ret (v := .tuple #[.agg #[.int .i64 s2, .int .u64 u2, .int .u64 p2, .int .i64 q2], .bool true]) (by simp [results, Try.results18, go_sem, hs2, cz]) rfl ⟨rfl, ?_, ?_⟩
  · exact ((((HB1.out.far hgw _).far hgw _).far hgw _).far hgw _).alloc _
  · exact ((((HU.out.set (.inr hle) _).set (.inr hle) _).set (.inr hle) _).set (.inr hle) _).alloc _

set_option maxHeartbeats 1000000 in
theorem do_back (g : Nat) (b b2 : B) (n : Bool) (t T : Int) (k : Int) (ok : Bool) (w : World) (h : IsB w g b) (h1 : k ≠ 1) (h2 : k ≠ 2) (h3 : k ≠ 3)
    (A : ∀ W, IsB W g b → Calls Try.prog 21 #[.pointer (some ⟨g, 0, none⟩)] W fun e w' => e = .returned (.bool n) ∧ IsB w' g b2 ∧ Upd (At g) W w')
    (R : ∀ W, Calls Try.prog 27 #[.agg b.cells] W fun e w' => e = .returned (.tuple #[.agg b2.cells, .bool n]) ∧ Below W.heap.size W w') :
    Calls Try.prog 18 #[.pointer (some ⟨g, 0, none⟩), .agg b.cells, .int .u64 t, .agg #[.int .i64 k, .int .u64 T, .bool ok]] w fun e w' =>
      e = .returned (.tuple #[.agg b2.cells, .bool true]) ∧ IsB w' g b2 ∧ Upd (At g) w w' := by
  have e1 : (k == 1) = false := by simpa using h1
  have e2 : (k == 2) = false := by simpa using h2
  have e3 : (k == 3) = false := by simpa using h3
  clear h1 h2 h3
  have hlt := h.lt
  have H := Lib.hid h
  have HA := Lib.hid A
  obtain ⟨s, u, p, q⟩ := b
  obtain ⟨s2, u2, p2, q2⟩ := b2
  have HR : Hid (∀ W, Calls Try.prog 27 #[.agg #[.int .i64 s, .int .u64 u, .int .u64 p, .int .i64 q]] W fun e w' => e = .returned (.tuple #[.agg #[.int .i64 s2, .int .u64 u2, .int .u64 p2, .int .i64 q2], .bool n]) ∧ Below W.heap.size W w') := R
  clear h A R
  show Calls Try.prog 18 #[.pointer (some ⟨g, 0, none⟩), .agg #[.int .i64 s, .int .u64 u, .int .u64 p, .int .i64 q], .int .u64 t, .agg #[.int .i64 k, .int .u64 T, .bool ok]] w _
  go_enter Try.func18, Try.ntmps18
  go_wp2_with fail
  refine (HA.out _ (((H.out.alloc _).alloc _).alloc _)).mono ?_
  rintro e w1 ⟨rfl, hb1, hu1⟩
  have hs1 : w.heap.size + 2 < w1.heap.size := by have := hu1.size; simp at this; omega
  have bx : Blk w1 w.heap.size 38 #[.int .i64 s, .int .u64 u, .int .u64 p, .int .i64 q] := (((Blk.new w _ _).alloc _).alloc _).upd hu1 (by unfold At; omega)
  have bd : Blk w1 (w.heap.size + 1) 41 #[.int .i64 k, .int .u64 T, .bool ok] := by
    have h := (Blk.new (w.alloc (.cells #[.int .i64 s, .int .u64 u, .int .u64 p, .int .i64 q] 38)) #[.int .i64 k, .int .u64 T, .bool ok] 41).alloc (.cells #[.int .i64 0, .int .u64 0, .int .u64 0, .int .i64 0] 38)
    simp only [World.size_alloc] at h
    exact h.upd hu1 (by unfold At; omega)
  have bz : Blk w1 (w.heap.size + 1 + 1) 38 #[.int .i64 0, .int .u64 0, .int .u64 0, .int .i64 0] := by
    have h := Blk.new ((w.alloc (.cells #[.int .i64 s, .int .u64 u, .int .u64 p, .int .i64 q] 38)).alloc (.cells #[.int .i64 k, .int .u64 T, .bool ok] 41)) #[.int .i64 0, .int .u64 0, .int .u64 0, .int .i64 0] 38
    simp only [World.size_alloc] at h
    exact h.upd hu1 (by unfold At; omega)
  have cx := bx.cell
  have cd := bd.cell
  have HX := Lib.hid (And.intro bz (And.intro hb1 hu1))
  clear bx bd bz hb1 hu1
  go_wp2_with fail
  refine (HR.out _).mono ?_
  rintro e w2 ⟨rfl, hd2⟩
  have hs2 : w.heap.size + 2 < w2.heap.size := by have := hd2.size; omega
  have bz := HX.out.1.upd (Upd.of_below hd2 (fun _ => False)) (fun h => h)
  have cz := bz.cell
  have fz := bz.frz
  have HB1 := Lib.hid (HX.out.2.1.upd (Upd.of_below hd2 (fun _ => False)) (fun h => h))
  have HU := Lib.hid ((((((Upd.refl (At g) w).alloc _).alloc _).alloc _).trans HX.out.2.2 (fun _ h => .inl h)).trans (Upd.of_below hd2 (fun _ => False)) (fun _ h => h.elim))
  have HZ := Lib.hid bz
  have hgw : g ≠ w.heap.size + 1 + 1 := by omega
  have hle : w.heap.size ≤ w.heap.size + 1 + 1 := by omega
  clear bz hd2
  go_wp2_with fail
  refine bodyPost_ret (v := .tuple #[.agg #[.int .i64 s2, .int .u64 u2, .int .u64 p2, .int .i64 q2], .bool true]) (by simp [results, Try.results18, go_sem, hs2, cz]) rfl ⟨rfl, ?_, ?_⟩
  · exact ((((HB1.out.far hgw _).far hgw _).far hgw _).far hgw _).alloc _
  · exact ((((HU.out.set (.inr hle) _).set (.inr hle) _).set (.inr hle) _).set (.inr hle) _).alloc _

theorem do_any (g : Nat) (b : B) (t k T : Int) (ok : Bool) (w : World) (h : IsB w g b) (hb : b.ok) :
    Calls Try.prog 18 #[.pointer (some ⟨g, 0, none⟩), .agg b.cells, .int .u64 t, .agg #[.int .i64 k, .int .u64 T, .bool ok]] w fun e w' =>
      e = .returned (.tuple #[.agg (b.act k t ok).cells, .bool true]) ∧ IsB w' g (b.act k t ok) ∧ Upd (At g) w w' := by
  unfold B.act
  by_cases h1 : k = 1
  · subst h1
    exact do_ask g b (b.ask t).1 (b.ask t).2 t T ok w h (fun W hW => ask_any g b t W hW hb) (fun W => refask b t W hb)
  rw [if_neg h1]
  by_cases h2 : k = 2
  · subst h2
    exact do_trip g b (b.trip t).1 (b.trip t).2 t T ok w h (fun W hW => trip_any g b t W hW) (fun W => reftrip b t W)
  rw [if_neg h2]
  by_cases h3 : k = 3
  · subst h3
    exact do_fin g b (b.fin t ok).1 (b.fin t ok).2 t T ok w h (fun W hW => fin_any g b t ok W hW) (fun W => reffin b t ok W)
  rw [if_neg h3]
  exact do_back g b b.back.1 b.back.2 t T k ok w h h1 h2 h3 (fun W hW => back_any g b W hW) (fun W => refback b W)

theorem act_ok {b : B} {t : Int} (k : Int) (ok : Bool) (hb : b.ok) (ht : ok64 t) : (b.act k t ok).ok := by
  obtain ⟨h1, h2⟩ := hb
  unfold B.act B.ask B.trip B.fin B.back B.ok
  repeat' split
  all_goals exact ⟨by assumption, by assumption⟩
end Go.Proofs.Ytmihigkkicgkdaa
