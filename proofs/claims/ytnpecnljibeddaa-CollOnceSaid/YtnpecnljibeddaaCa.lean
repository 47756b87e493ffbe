/- A window's Add, raw, in its four ways. -/
import Derived.Test.YtnpecnljibeddaaCc
namespace Go.Proofs.Ytnpecnljibeddaa
open Go.RowKit
attribute [local go_sem ↓] Go.wp_at_zero Go.wp_at_succ
set_option linter.unusedVariables false
set_option linter.unusedSimpArgs false

/-- Nothing happened. -/
abbrev ZS : Array Value := #[.bool false, .bool false, .int .u64 0, .slice none 0 0, .slice none 0 0]
set_option maxRecDepth 100000 in
set_option maxHeartbeats 4000000 in
theorem cadd_new_ready {g : Nat} {win most now id arg due : Int} (hm : most ≤ 1) (hw : W64 win) (hn : W64 now) (hd : sat now win = due) (w : World) (h : Blk w g 69 #[.pointer none, .int .u64 win, .int .i64 most]) :
    Calls Try.prog 13 #[.pointer (some ⟨g, 0, none⟩), .int .u64 now, .int .i64 id, .int .i64 arg] w fun e_ w' => ∃ o A c M d, w.heap.size ≤ o ∧ e_ = .returned (.agg #[.bool true, .bool true, .int .u64 due, .slice A 1 c, .slice M 1 d]) ∧ Blk w' g 69 #[.pointer none, .int .u64 win, .int .i64 most] ∧ Sl w' A 1 c (nums [arg]) ∧ Sl w' M 1 d (prs [(id, 0)]) ∧ (∀ b k, A = some ⟨b, k, none⟩ → w.heap.size ≤ b ∧ b ≠ o) ∧ (∀ b k, M = some ⟨b, k, none⟩ → w.heap.size ≤ b ∧ b ≠ o) ∧ Upd (At g) w w' := by
  have HW := Lib.hid hw
  have HN := Lib.hid hn
  have HD := Lib.hid hd
  have U0 : Hid (Upd (At g) w _) := Lib.hid (((Upd.refl (At g) w).alloc (.cells ZS 42)).alloc (.cells ZS 42))
  have B0 := Lib.hid ((h.alloc (.cells ZS 42)).alloc (.cells ZS 42))
  have S0 := Lib.hid ((Blk.new w ZS 42).alloc (.cells ZS 42))
  have T0 := Lib.hid (Blk.new1 w (.cells ZS 42) ZS 42)
  have hlt := h.lt
  have x0 : ((w.alloc (.cells ZS 42)).alloc (.cells ZS 42)).cell? ⟨g, 0, none⟩ = some (.pointer none) := B0.out.cell 0
  clear h hw hn hd
  go_enter Try.func13, Try.ntmps13
  go_wp2_with fail
  refine (open_none _ B0.out).mono ?_
  rintro e1 w1 ⟨rfl, rfl⟩
  clear x0
  go_wp2_with fail
  refine Code.gen (fun W => Blk W g 69 #[.pointer none, .int .u64 win, .int .i64 most] ∧ Blk W w.heap.size 42 ZS ∧ Blk W (w.heap.size + 1) 42 ZS ∧ Upd (At g) w W) ⟨B0.out, S0.out, T0.out, U0.out⟩ ?_
  rintro w1 ⟨qB, qS, qT, qU⟩
  have B1 := Lib.hid qB
  have S1 := Lib.hid qS
  have T1 := Lib.hid qT
  have U1 := Lib.hid qU
  clear qB qS qT qU
  clear B0 S0 T0 U0
  have l1 := T1.out.lt
  have x0 : w1.cell? ⟨g, 0, none⟩ = some (.pointer none) := B1.out.cell 0
  have x1 : w1.cell? ⟨g, 1, none⟩ = some (.int .u64 win) := B1.out.cell 1
  have xf := B1.out.frz
  go_region_held3 (fun w' => w'.cell? ⟨g, 1, none⟩ = some (.int .u64 win)) (first | go_keep | (exact ((B2.out.set 0 (.pointer (some ⟨w2.heap.size, 0, none⟩))).alloc _).cell 1)) (first | (go_at_call 23; refine (sat_to HN.out HW.out HD.out _).mono ?_; rintro e' w' ⟨rfl, rfl⟩) | (go_at_call 22; refine (one_any _ _ _).mono ?_; rintro e' w2 ⟨A, c, M, d, rfl, ha, hb, hal, hbl, hd⟩; have hu := Upd.of_below hd (fun _ => False); have B2 := Lib.hid (B1.out.drew.upd hu (fun h => h)); have S2 := Lib.hid (S1.out.drew.upd hu (fun h => h)); have T2 := Lib.hid (T1.out.drew.upd hu (fun h => h)); have U2 := Lib.hid (U1.out.drew.trans hu (fun _ h => h.elim)); have HA := Lib.hid ha; have HB := Lib.hid hb; have HAL := Lib.hid hal; have HBL := Lib.hid hbl; have y0 : w2.cell? ⟨g, 0, none⟩ = some (.pointer none) := B2.out.cell 0; have y1 : w2.cell? ⟨g, 1, none⟩ = some (.int .u64 win) := B2.out.cell 1; have yf := B2.out.frz; have yl := B2.out.lt; clear hd hu ha hb hal hbl))
  have B3 : Hid (Blk ((w2.setCell ⟨g, 0, none⟩ (.pointer (some ⟨w2.heap.size, 0, none⟩))).alloc (.cells #[.slice A 1 c, .slice M 1 d, .int .u64 due] 72)) g 69 #[.pointer (some ⟨w2.heap.size, 0, none⟩), .int .u64 win, .int .i64 most]) := Lib.hid ((B2.out.set 0 _).alloc _)
  have O3 : Hid (Blk ((w2.setCell ⟨g, 0, none⟩ (.pointer (some ⟨w2.heap.size, 0, none⟩))).alloc (.cells #[.slice A 1 c, .slice M 1 d, .int .u64 due] 72)) w2.heap.size 72 #[.slice A 1 c, .slice M 1 d, .int .u64 due]) := Lib.hid (Blk.newS _ _ _ _ _)
  have S3 : Hid (Blk ((w2.setCell ⟨g, 0, none⟩ (.pointer (some ⟨w2.heap.size, 0, none⟩))).alloc (.cells #[.slice A 1 c, .slice M 1 d, .int .u64 due] 72)) w.heap.size 42 ZS) := Lib.hid ((S2.out.far (p := ⟨g, 0, none⟩) (Nat.ne_of_gt hlt) _).alloc _)
  have T3 : Hid (Blk ((w2.setCell ⟨g, 0, none⟩ (.pointer (some ⟨w2.heap.size, 0, none⟩))).alloc (.cells #[.slice A 1 c, .slice M 1 d, .int .u64 due] 72)) (w.heap.size + 1) 42 ZS) := Lib.hid ((T2.out.far (p := ⟨g, 0, none⟩) (Nat.ne_of_gt (Nat.lt_succ_of_lt hlt)) _).alloc _)
  have U3 : Hid (Upd (At g) w ((w2.setCell ⟨g, 0, none⟩ (.pointer (some ⟨w2.heap.size, 0, none⟩))).alloc (.cells #[.slice A 1 c, .slice M 1 d, .int .u64 due] 72))) := Lib.hid ((U2.out.put 0 _).alloc _)
  have A3 : Hid (Sl ((w2.setCell ⟨g, 0, none⟩ (.pointer (some ⟨w2.heap.size, 0, none⟩))).alloc (.cells #[.slice A 1 c, .slice M 1 d, .int .u64 due] 72)) A 1 c (nums [arg])) := Lib.hid ((HA.out.far (p := ⟨g, 0, none⟩) (fun b k e h => by have h3 : w1.heap.size ≤ b := (HAL.out b k e).1; have h2 : b = g := h; omega) _).alloc _)
  have M3 : Hid (Sl ((w2.setCell ⟨g, 0, none⟩ (.pointer (some ⟨w2.heap.size, 0, none⟩))).alloc (.cells #[.slice A 1 c, .slice M 1 d, .int .u64 due] 72)) M 1 d (prs [(id, 0)])) := Lib.hid ((HB.out.far (p := ⟨g, 0, none⟩) (fun b k e h => by have h3 : w1.heap.size ≤ b := (HBL.out b k e).1; have h2 : b = g := h; omega) _).alloc _)
  have HAL3 : Hid (∀ b k, A = some ⟨b, k, none⟩ → w.heap.size + 1 < b ∧ b ≠ w2.heap.size) := Lib.hid (fun b k e => by have h3 : w1.heap.size ≤ b := (HAL.out b k e).1; have h4 := (HAL.out b k e).2; omega)
  have HML3 : Hid (∀ b k, M = some ⟨b, k, none⟩ → w.heap.size + 1 < b ∧ b ≠ w2.heap.size) := Lib.hid (fun b k e => by have h3 : w1.heap.size ≤ b := (HBL.out b k e).1; have h4 := (HBL.out b k e).2; omega)
  have ho : w.heap.size + 1 < w2.heap.size := T2.out.lt
  clear x0 x1 xf y0 y1 yf yl B2 S2 T2 U2 HA HB HAL HBL B1 S1 T1 U1
  generalize ((w2.setCell ⟨g, 0, none⟩ (.pointer (some ⟨w2.heap.size, 0, none⟩))).alloc (.cells #[.slice A 1 c, .slice M 1 d, .int .u64 due] 72)) = w3 at *
  generalize w2.heap.size = o at *
  have z0 : w3.cell? ⟨g, 0, none⟩ = some (.pointer (some ⟨o, 0, none⟩)) := B3.out.cell 0
  have q2 : w3.cell? ⟨o, 2, none⟩ = some (.int .u64 due) := O3.out.cell 2
  have tl := T3.out.lt
  have tf := T3.out.frz
  have t0 : w3.cell? ⟨w.heap.size + 1, 0, none⟩ = some (.bool false) := T3.out.cell 0
  have t2 : w3.cell? ⟨w.heap.size + 1, 2, none⟩ = some (.int .u64 0) := T3.out.cell 2
  have n1 := cell_far (show g ≠ w.heap.size + 1 by omega)
  have n2 := cell_far (show o ≠ w.heap.size + 1 by omega)
  go_wp2_with fail
  go_region_held3 (fun w' => w'.cell? ⟨g, 0, none⟩ = some (.pointer (some ⟨o, 0, none⟩)) ∧ w'.cell? ⟨o, 2, none⟩ = some (.int .u64 due)) (first | go_keep | (simp only [n1, n2, cell_drew]; exact ⟨z0, q2⟩)) (fail)
  have B4 : Hid (Blk ((w3.setCell ⟨w.heap.size + 1, 0, none⟩ (.bool true)).setCell ⟨w.heap.size + 1, 2, none⟩ (.int .u64 due)).drew g 69 #[.pointer (some ⟨o, 0, none⟩), .int .u64 win, .int .i64 most]) := Lib.hid (((B3.out.far (p := ⟨w.heap.size + 1, 0, none⟩) (show g ≠ w.heap.size + 1 by omega) _).far (p := ⟨w.heap.size + 1, 2, none⟩) (show g ≠ w.heap.size + 1 by omega) _).drew)
  have O4 : Hid (Blk ((w3.setCell ⟨w.heap.size + 1, 0, none⟩ (.bool true)).setCell ⟨w.heap.size + 1, 2, none⟩ (.int .u64 due)).drew o 72 #[.slice A 1 c, .slice M 1 d, .int .u64 due]) := Lib.hid (((O3.out.far (p := ⟨w.heap.size + 1, 0, none⟩) (show o ≠ w.heap.size + 1 by omega) _).far (p := ⟨w.heap.size + 1, 2, none⟩) (show o ≠ w.heap.size + 1 by omega) _).drew)
  have S4 : Hid (Blk ((w3.setCell ⟨w.heap.size + 1, 0, none⟩ (.bool true)).setCell ⟨w.heap.size + 1, 2, none⟩ (.int .u64 due)).drew w.heap.size 42 ZS) := Lib.hid (((S3.out.far (p := ⟨w.heap.size + 1, 0, none⟩) (show w.heap.size ≠ w.heap.size + 1 by omega) _).far (p := ⟨w.heap.size + 1, 2, none⟩) (show w.heap.size ≠ w.heap.size + 1 by omega) _).drew)
  have T4 : Hid (Blk ((w3.setCell ⟨w.heap.size + 1, 0, none⟩ (.bool true)).setCell ⟨w.heap.size + 1, 2, none⟩ (.int .u64 due)).drew (w.heap.size + 1) 42 #[.bool true, .bool false, .int .u64 due, .slice none 0 0, .slice none 0 0]) := Lib.hid (((T3.out.set 0 (.bool true)).set 2 (.int .u64 due)).drew)
  have U4 : Hid (Upd (At g) w ((w3.setCell ⟨w.heap.size + 1, 0, none⟩ (.bool true)).setCell ⟨w.heap.size + 1, 2, none⟩ (.int .u64 due)).drew) := Lib.hid (((U3.out.set (p := ⟨w.heap.size + 1, 0, none⟩) (.inr (Nat.le_succ _)) _).set (p := ⟨w.heap.size + 1, 2, none⟩) (.inr (Nat.le_succ _)) _).drew)
  have A4 : Hid (Sl ((w3.setCell ⟨w.heap.size + 1, 0, none⟩ (.bool true)).setCell ⟨w.heap.size + 1, 2, none⟩ (.int .u64 due)).drew A 1 c (nums [arg])) := Lib.hid (((A3.out.far (p := ⟨w.heap.size + 1, 0, none⟩) (fun b k e h => by have h2 : b = w.heap.size + 1 := h; have := (HAL3.out b k e).1; omega) _).far (p := ⟨w.heap.size + 1, 2, none⟩) (fun b k e h => by have h2 : b = w.heap.size + 1 := h; have := (HAL3.out b k e).1; omega) _).drew)
  have M4 : Hid (Sl ((w3.setCell ⟨w.heap.size + 1, 0, none⟩ (.bool true)).setCell ⟨w.heap.size + 1, 2, none⟩ (.int .u64 due)).drew M 1 d (prs [(id, 0)])) := Lib.hid (((M3.out.far (p := ⟨w.heap.size + 1, 0, none⟩) (fun b k e h => by have h2 : b = w.heap.size + 1 := h; have := (HML3.out b k e).1; omega) _).far (p := ⟨w.heap.size + 1, 2, none⟩) (fun b k e h => by have h2 : b = w.heap.size + 1 := h; have := (HML3.out b k e).1; omega) _).drew)
  clear z0 q2 tl tf t0 t2 n1 n2 B3 O3 S3 T3 U3 A3 M3
  generalize ((w3.setCell ⟨w.heap.size + 1, 0, none⟩ (.bool true)).setCell ⟨w.heap.size + 1, 2, none⟩ (.int .u64 due)).drew = w4 at *
  have hlo : w.heap.size < o := by omega
  have z0 : w4.cell? ⟨g, 0, none⟩ = some (.pointer (some ⟨o, 0, none⟩)) := B4.out.cell 0
  have z2 : w4.cell? ⟨g, 2, none⟩ = some (.int .i64 most) := B4.out.cell 2
  have q0 : w4.cell? ⟨o, 0, none⟩ = some (.slice A 1 c) := O4.out.cell 0
  have q1 : w4.cell? ⟨o, 1, none⟩ = some (.slice M 1 d) := O4.out.cell 1
  have hf : decide (((1 : Nat) : Int) ≥ most) = true := by simpa using hm
  have HF := Lib.hid hf
  clear hf
  go_wp2_with fail
  go_region_held3 (fun w' => w'.cell? ⟨g, 0, none⟩ = some (.pointer (some ⟨o, 0, none⟩)) ∧ w'.cell? ⟨g, 2, none⟩ = some (.int .i64 most) ∧ w'.cell? ⟨o, 0, none⟩ = some (.slice A 1 c) ∧ w'.cell? ⟨o, 1, none⟩ = some (.slice M 1 d)) (go_keep) ((go_at_call 24; refine (full_to HF.out (by omega) _).mono ?_; rintro e' w5 ⟨rfl, hd⟩; have hu := Upd.of_below hd (fun _ => False); have B5 := Lib.hid (B4.out.drew.upd hu (fun h => h)); have O5 := Lib.hid (O4.out.drew.upd hu (fun h => h)); have S5 := Lib.hid (S4.out.drew.upd hu (fun h => h)); have T5 := Lib.hid (T4.out.drew.upd hu (fun h => h)); have U5 := Lib.hid (U4.out.drew.trans hu (fun _ h => h.elim)); have A5 := Lib.hid (A4.out.drew.upd0 hu); have M5 := Lib.hid (M4.out.drew.upd0 hu); have z50 : w5.cell? ⟨g, 0, none⟩ = some (.pointer (some ⟨o, 0, none⟩)) := B5.out.cell 0; have z52 : w5.cell? ⟨g, 2, none⟩ = some (.int .i64 most) := B5.out.cell 2; have q50 : w5.cell? ⟨o, 0, none⟩ = some (.slice A 1 c) := O5.out.cell 0; have q51 : w5.cell? ⟨o, 1, none⟩ = some (.slice M 1 d) := O5.out.cell 1; clear hd hu))
  clear z0 z2 q0 q1 B4 O4 S4 T4 U4 A4 M4
  have tl := T5.out.lt
  have tf := T5.out.frz
  have t1 : w5.cell? ⟨w.heap.size + 1, 1, none⟩ = some (.bool false) := T5.out.cell 1
  have t3 : w5.cell? ⟨w.heap.size + 1, 3, none⟩ = some (.slice none 0 0) := T5.out.cell 3
  have t4 : w5.cell? ⟨w.heap.size + 1, 4, none⟩ = some (.slice none 0 0) := T5.out.cell 4
  have n1 := cell_far (show g ≠ w.heap.size + 1 by omega)
  have n2 := cell_far (show o ≠ w.heap.size + 1 by omega)
  go_wp2_with fail
  go_region_held3 (fun w' => w'.cell? ⟨g, 0, none⟩ = some (.pointer (some ⟨o, 0, none⟩)) ∧ w'.cell? ⟨o, 0, none⟩ = some (.slice A 1 c) ∧ w'.cell? ⟨o, 1, none⟩ = some (.slice M 1 d)) (first | go_keep | (simp only [n1, n2, cell_drew]; exact ⟨z50, q50, q51⟩)) (fail)
  have B6 : Hid (Blk (((w5.setCell ⟨w.heap.size + 1, 1, none⟩ (.bool true)).setCell ⟨w.heap.size + 1, 3, none⟩ (.slice A 1 c)).setCell ⟨w.heap.size + 1, 4, none⟩ (.slice M 1 d)).drew g 69 #[.pointer (some ⟨o, 0, none⟩), .int .u64 win, .int .i64 most]) := Lib.hid ((((B5.out.far (p := ⟨w.heap.size + 1, 1, none⟩) (show g ≠ w.heap.size + 1 by omega) _).far (p := ⟨w.heap.size + 1, 3, none⟩) (show g ≠ w.heap.size + 1 by omega) _).far (p := ⟨w.heap.size + 1, 4, none⟩) (show g ≠ w.heap.size + 1 by omega) _).drew)
  have S6 : Hid (Blk (((w5.setCell ⟨w.heap.size + 1, 1, none⟩ (.bool true)).setCell ⟨w.heap.size + 1, 3, none⟩ (.slice A 1 c)).setCell ⟨w.heap.size + 1, 4, none⟩ (.slice M 1 d)).drew w.heap.size 42 ZS) := Lib.hid ((((S5.out.far (p := ⟨w.heap.size + 1, 1, none⟩) (show w.heap.size ≠ w.heap.size + 1 by omega) _).far (p := ⟨w.heap.size + 1, 3, none⟩) (show w.heap.size ≠ w.heap.size + 1 by omega) _).far (p := ⟨w.heap.size + 1, 4, none⟩) (show w.heap.size ≠ w.heap.size + 1 by omega) _).drew)
  have T6 : Hid (Blk (((w5.setCell ⟨w.heap.size + 1, 1, none⟩ (.bool true)).setCell ⟨w.heap.size + 1, 3, none⟩ (.slice A 1 c)).setCell ⟨w.heap.size + 1, 4, none⟩ (.slice M 1 d)).drew (w.heap.size + 1) 42 #[.bool true, .bool true, .int .u64 due, .slice A 1 c, .slice M 1 d]) := Lib.hid ((((T5.out.set 1 (.bool true)).set 3 (.slice A 1 c)).set 4 (.slice M 1 d)).drew)
  have U6 : Hid (Upd (At g) w (((w5.setCell ⟨w.heap.size + 1, 1, none⟩ (.bool true)).setCell ⟨w.heap.size + 1, 3, none⟩ (.slice A 1 c)).setCell ⟨w.heap.size + 1, 4, none⟩ (.slice M 1 d)).drew) := Lib.hid ((((U5.out.set (p := ⟨w.heap.size + 1, 1, none⟩) (.inr (Nat.le_succ _)) _).set (p := ⟨w.heap.size + 1, 3, none⟩) (.inr (Nat.le_succ _)) _).set (p := ⟨w.heap.size + 1, 4, none⟩) (.inr (Nat.le_succ _)) _).drew)
  have A6 : Hid (Sl (((w5.setCell ⟨w.heap.size + 1, 1, none⟩ (.bool true)).setCell ⟨w.heap.size + 1, 3, none⟩ (.slice A 1 c)).setCell ⟨w.heap.size + 1, 4, none⟩ (.slice M 1 d)).drew A 1 c (nums [arg])) := Lib.hid ((((A5.out.far (p := ⟨w.heap.size + 1, 1, none⟩) (fun b k e h => absurd h (Nat.ne_of_gt (HAL3.out b k e).1)) _).far (p := ⟨w.heap.size + 1, 3, none⟩) (fun b k e h => absurd h (Nat.ne_of_gt (HAL3.out b k e).1)) _).far (p := ⟨w.heap.size + 1, 4, none⟩) (fun b k e h => absurd h (Nat.ne_of_gt (HAL3.out b k e).1)) _).drew)
  have M6 : Hid (Sl (((w5.setCell ⟨w.heap.size + 1, 1, none⟩ (.bool true)).setCell ⟨w.heap.size + 1, 3, none⟩ (.slice A 1 c)).setCell ⟨w.heap.size + 1, 4, none⟩ (.slice M 1 d)).drew M 1 d (prs [(id, 0)])) := Lib.hid ((((M5.out.far (p := ⟨w.heap.size + 1, 1, none⟩) (fun b k e h => absurd h (Nat.ne_of_gt (HML3.out b k e).1)) _).far (p := ⟨w.heap.size + 1, 3, none⟩) (fun b k e h => absurd h (Nat.ne_of_gt (HML3.out b k e).1)) _).far (p := ⟨w.heap.size + 1, 4, none⟩) (fun b k e h => absurd h (Nat.ne_of_gt (HML3.out b k e).1)) _).drew)
  clear z50 z52 q50 q51 tl tf t1 t3 t4 n1 n2 B5 O5 S5 T5 U5 A5 M5
  generalize (((w5.setCell ⟨w.heap.size + 1, 1, none⟩ (.bool true)).setCell ⟨w.heap.size + 1, 3, none⟩ (.slice A 1 c)).setCell ⟨w.heap.size + 1, 4, none⟩ (.slice M 1 d)).drew = w6 at *
  have z0 : w6.cell? ⟨g, 0, none⟩ = some (.pointer (some ⟨o, 0, none⟩)) := B6.out.cell 0
  have t0 : w6.cell? ⟨w.heap.size + 1, 0, none⟩ = some (.bool true) := T6.out.cell 0
  have t1 : w6.cell? ⟨w.heap.size + 1, 1, none⟩ = some (.bool true) := T6.out.cell 1
  have t2 : w6.cell? ⟨w.heap.size + 1, 2, none⟩ = some (.int .u64 due) := T6.out.cell 2
  have t3 : w6.cell? ⟨w.heap.size + 1, 3, none⟩ = some (.slice A 1 c) := T6.out.cell 3
  have t4 : w6.cell? ⟨w.heap.size + 1, 4, none⟩ = some (.slice M 1 d) := T6.out.cell 4
  have s0 : w6.cell? ⟨w.heap.size, 0, none⟩ = some (.bool false) := S6.out.cell 0
  have s1 : w6.cell? ⟨w.heap.size, 1, none⟩ = some (.bool false) := S6.out.cell 1
  have s2 : w6.cell? ⟨w.heap.size, 2, none⟩ = some (.int .u64 0) := S6.out.cell 2
  have s3 : w6.cell? ⟨w.heap.size, 3, none⟩ = some (.slice none 0 0) := S6.out.cell 3
  have s4 : w6.cell? ⟨w.heap.size, 4, none⟩ = some (.slice none 0 0) := S6.out.cell 4
  have sl := S6.out.lt
  have sf := S6.out.frz
  have zl := B6.out.lt
  have zf := B6.out.frz
  have tl := T6.out.lt
  go_wp2
  have SF : Hid (Blk (W5 (w6.setCell ⟨g, 0, none⟩ (.pointer none)) w.heap.size (.bool true) (.bool true) (.int .u64 due) (.slice A 1 c) (.slice M 1 d)) w.heap.size 42 #[.bool true, .bool true, .int .u64 due, .slice A 1 c, .slice M 1 d]) := Lib.hid (Blk.w5 (.bool true) (.bool true) (.int .u64 due) (.slice A 1 c) (.slice M 1 d) (S6.out.far (p := ⟨g, 0, none⟩) (show w.heap.size ≠ g by omega) (.pointer none)))
  have BF : Hid (Blk (W5 (w6.setCell ⟨g, 0, none⟩ (.pointer none)) w.heap.size (.bool true) (.bool true) (.int .u64 due) (.slice A 1 c) (.slice M 1 d)) g 69 #[.pointer none, .int .u64 win, .int .i64 most]) := Lib.hid (Blk.w5f (.bool true) (.bool true) (.int .u64 due) (.slice A 1 c) (.slice M 1 d) (B6.out.set 0 (.pointer none)) (show g ≠ w.heap.size by omega))
  have UF : Hid (Upd (At g) w (W5 (w6.setCell ⟨g, 0, none⟩ (.pointer none)) w.heap.size (.bool true) (.bool true) (.int .u64 due) (.slice A 1 c) (.slice M 1 d))) := Lib.hid (Upd.w5 (.bool true) (.bool true) (.int .u64 due) (.slice A 1 c) (.slice M 1 d) (U6.out.set (p := ⟨g, 0, none⟩) (.inl rfl) (.pointer none)) (.inr (Nat.le_refl _)))
  have AF : Hid (Sl (W5 (w6.setCell ⟨g, 0, none⟩ (.pointer none)) w.heap.size (.bool true) (.bool true) (.int .u64 due) (.slice A 1 c) (.slice M 1 d)) A 1 c (nums [arg])) := Lib.hid (Sl.w5 (.bool true) (.bool true) (.int .u64 due) (.slice A 1 c) (.slice M 1 d) (A6.out.far (p := ⟨g, 0, none⟩) (fun b k e h => by have h2 : b = g := h; have := (HAL3.out b k e).1; omega) (.pointer none)) (fun b k e => by have := (HAL3.out b k e).1; omega))
  have MF : Hid (Sl (W5 (w6.setCell ⟨g, 0, none⟩ (.pointer none)) w.heap.size (.bool true) (.bool true) (.int .u64 due) (.slice A 1 c) (.slice M 1 d)) M 1 d (prs [(id, 0)])) := Lib.hid (Sl.w5 (.bool true) (.bool true) (.int .u64 due) (.slice A 1 c) (.slice M 1 d) (M6.out.far (p := ⟨g, 0, none⟩) (fun b k e h => by have h2 : b = g := h; have := (HML3.out b k e).1; omega) (.pointer none)) (fun b k e => by have := (HML3.out b k e).1; omega))
  have lF := SF.out.lt
  have c0 : (W5 (w6.setCell ⟨g, 0, none⟩ (.pointer none)) w.heap.size (.bool true) (.bool true) (.int .u64 due) (.slice A 1 c) (.slice M 1 d)).cell? ⟨w.heap.size, 0, none⟩ = some (.bool true) := SF.out.cell 0
  have c1 : (W5 (w6.setCell ⟨g, 0, none⟩ (.pointer none)) w.heap.size (.bool true) (.bool true) (.int .u64 due) (.slice A 1 c) (.slice M 1 d)).cell? ⟨w.heap.size, 1, none⟩ = some (.bool true) := SF.out.cell 1
  have c2 : (W5 (w6.setCell ⟨g, 0, none⟩ (.pointer none)) w.heap.size (.bool true) (.bool true) (.int .u64 due) (.slice A 1 c) (.slice M 1 d)).cell? ⟨w.heap.size, 2, none⟩ = some (.int .u64 due) := SF.out.cell 2
  have c3 : (W5 (w6.setCell ⟨g, 0, none⟩ (.pointer none)) w.heap.size (.bool true) (.bool true) (.int .u64 due) (.slice A 1 c) (.slice M 1 d)).cell? ⟨w.heap.size, 3, none⟩ = some (.slice A 1 c) := SF.out.cell 3
  have c4 : (W5 (w6.setCell ⟨g, 0, none⟩ (.pointer none)) w.heap.size (.bool true) (.bool true) (.int .u64 due) (.slice A 1 c) (.slice M 1 d)).cell? ⟨w.heap.size, 4, none⟩ = some (.slice M 1 d) := SF.out.cell 4
  clear s0 s1 s2 s3 s4 t0 t1 t2 t3 t4 z0 sl sf zl zf tl
  refine bodyPost_ret (v := .agg #[.bool true, .bool true, .int .u64 due, .slice A 1 c, .slice M 1 d]) (by simp [results, Try.results13, go_sem, c0, c1, c2, c3, c4, lF]) rfl ⟨o, A, c, M, d, Nat.le_of_lt hlo, rfl, BF.out, AF.out, MF.out, (fun b k e => ⟨Nat.le_of_lt (Nat.lt_of_succ_lt (HAL3.out b k e).1), (HAL3.out b k e).2⟩), (fun b k e => ⟨Nat.le_of_lt (Nat.lt_of_succ_lt (HML3.out b k e).1), (HML3.out b k e).2⟩), UF.out⟩
set_option maxRecDepth 100000 in
set_option maxHeartbeats 4000000 in
theorem cadd_new_more {g : Nat} {win most now id arg due : Int} (hm : ¬ most ≤ 1) (hw : W64 win) (hn : W64 now) (hd : sat now win = due) (w : World) (h : Blk w g 69 #[.pointer none, .int .u64 win, .int .i64 most]) :
    Calls Try.prog 13 #[.pointer (some ⟨g, 0, none⟩), .int .u64 now, .int .i64 id, .int .i64 arg] w fun e_ w' => ∃ o A c M d, w.heap.size ≤ o ∧ e_ = .returned (.agg #[.bool true, .bool false, .int .u64 due, .slice none 0 0, .slice none 0 0]) ∧ Blk w' g 69 #[.pointer (some ⟨o, 0, none⟩), .int .u64 win, .int .i64 most] ∧ Blk w' o 72 #[.slice A 1 c, .slice M 1 d, .int .u64 due] ∧ Sl w' A 1 c (nums [arg]) ∧ Sl w' M 1 d (prs [(id, 0)]) ∧ (∀ b k, A = some ⟨b, k, none⟩ → w.heap.size ≤ b ∧ b ≠ o) ∧ (∀ b k, M = some ⟨b, k, none⟩ → w.heap.size ≤ b ∧ b ≠ o) ∧ Upd (At g) w w' := by
  have HW := Lib.hid hw
  have HN := Lib.hid hn
  have HD := Lib.hid hd
  have U0 : Hid (Upd (At g) w _) := Lib.hid (((Upd.refl (At g) w).alloc (.cells ZS 42)).alloc (.cells ZS 42))
  have B0 := Lib.hid ((h.alloc (.cells ZS 42)).alloc (.cells ZS 42))
  have S0 := Lib.hid ((Blk.new w ZS 42).alloc (.cells ZS 42))
  have T0 := Lib.hid (Blk.new1 w (.cells ZS 42) ZS 42)
  have hlt := h.lt
  have x0 : ((w.alloc (.cells ZS 42)).alloc (.cells ZS 42)).cell? ⟨g, 0, none⟩ = some (.pointer none) := B0.out.cell 0
  clear h hw hn hd
  go_enter Try.func13, Try.ntmps13
  go_wp2_with fail
  refine (open_none _ B0.out).mono ?_
  rintro e1 w1 ⟨rfl, rfl⟩
  clear x0
  go_wp2_with fail
  refine Code.gen (fun W => Blk W g 69 #[.pointer none, .int .u64 win, .int .i64 most] ∧ Blk W w.heap.size 42 ZS ∧ Blk W (w.heap.size + 1) 42 ZS ∧ Upd (At g) w W) ⟨B0.out, S0.out, T0.out, U0.out⟩ ?_
  rintro w1 ⟨qB, qS, qT, qU⟩
  have B1 := Lib.hid qB
  have S1 := Lib.hid qS
  have T1 := Lib.hid qT
  have U1 := Lib.hid qU
  clear qB qS qT qU
  clear B0 S0 T0 U0
  have l1 := T1.out.lt
  have x0 : w1.cell? ⟨g, 0, none⟩ = some (.pointer none) := B1.out.cell 0
  have x1 : w1.cell? ⟨g, 1, none⟩ = some (.int .u64 win) := B1.out.cell 1
  have xf := B1.out.frz
  go_region_held3 (fun w' => w'.cell? ⟨g, 1, none⟩ = some (.int .u64 win)) (first | go_keep | (exact ((B2.out.set 0 (.pointer (some ⟨w2.heap.size, 0, none⟩))).alloc _).cell 1)) (first | (go_at_call 23; refine (sat_to HN.out HW.out HD.out _).mono ?_; rintro e' w' ⟨rfl, rfl⟩) | (go_at_call 22; refine (one_any _ _ _).mono ?_; rintro e' w2 ⟨A, c, M, d, rfl, ha, hb, hal, hbl, hd⟩; have hu := Upd.of_below hd (fun _ => False); have B2 := Lib.hid (B1.out.drew.upd hu (fun h => h)); have S2 := Lib.hid (S1.out.drew.upd hu (fun h => h)); have T2 := Lib.hid (T1.out.drew.upd hu (fun h => h)); have U2 := Lib.hid (U1.out.drew.trans hu (fun _ h => h.elim)); have HA := Lib.hid ha; have HB := Lib.hid hb; have HAL := Lib.hid hal; have HBL := Lib.hid hbl; have y0 : w2.cell? ⟨g, 0, none⟩ = some (.pointer none) := B2.out.cell 0; have y1 : w2.cell? ⟨g, 1, none⟩ = some (.int .u64 win) := B2.out.cell 1; have yf := B2.out.frz; have yl := B2.out.lt; clear hd hu ha hb hal hbl))
  have B3 : Hid (Blk ((w2.setCell ⟨g, 0, none⟩ (.pointer (some ⟨w2.heap.size, 0, none⟩))).alloc (.cells #[.slice A 1 c, .slice M 1 d, .int .u64 due] 72)) g 69 #[.pointer (some ⟨w2.heap.size, 0, none⟩), .int .u64 win, .int .i64 most]) := Lib.hid ((B2.out.set 0 _).alloc _)
  have O3 : Hid (Blk ((w2.setCell ⟨g, 0, none⟩ (.pointer (some ⟨w2.heap.size, 0, none⟩))).alloc (.cells #[.slice A 1 c, .slice M 1 d, .int .u64 due] 72)) w2.heap.size 72 #[.slice A 1 c, .slice M 1 d, .int .u64 due]) := Lib.hid (Blk.newS _ _ _ _ _)
  have S3 : Hid (Blk ((w2.setCell ⟨g, 0, none⟩ (.pointer (some ⟨w2.heap.size, 0, none⟩))).alloc (.cells #[.slice A 1 c, .slice M 1 d, .int .u64 due] 72)) w.heap.size 42 ZS) := Lib.hid ((S2.out.far (p := ⟨g, 0, none⟩) (Nat.ne_of_gt hlt) _).alloc _)
  have T3 : Hid (Blk ((w2.setCell ⟨g, 0, none⟩ (.pointer (some ⟨w2.heap.size, 0, none⟩))).alloc (.cells #[.slice A 1 c, .slice M 1 d, .int .u64 due] 72)) (w.heap.size + 1) 42 ZS) := Lib.hid ((T2.out.far (p := ⟨g, 0, none⟩) (Nat.ne_of_gt (Nat.lt_succ_of_lt hlt)) _).alloc _)
  have U3 : Hid (Upd (At g) w ((w2.setCell ⟨g, 0, none⟩ (.pointer (some ⟨w2.heap.size, 0, none⟩))).alloc (.cells #[.slice A 1 c, .slice M 1 d, .int .u64 due] 72))) := Lib.hid ((U2.out.put 0 _).alloc _)
  have A3 : Hid (Sl ((w2.setCell ⟨g, 0, none⟩ (.pointer (some ⟨w2.heap.size, 0, none⟩))).alloc (.cells #[.slice A 1 c, .slice M 1 d, .int .u64 due] 72)) A 1 c (nums [arg])) := Lib.hid ((HA.out.far (p := ⟨g, 0, none⟩) (fun b k e h => by have h3 : w1.heap.size ≤ b := (HAL.out b k e).1; have h2 : b = g := h; omega) _).alloc _)
  have M3 : Hid (Sl ((w2.setCell ⟨g, 0, none⟩ (.pointer (some ⟨w2.heap.size, 0, none⟩))).alloc (.cells #[.slice A 1 c, .slice M 1 d, .int .u64 due] 72)) M 1 d (prs [(id, 0)])) := Lib.hid ((HB.out.far (p := ⟨g, 0, none⟩) (fun b k e h => by have h3 : w1.heap.size ≤ b := (HBL.out b k e).1; have h2 : b = g := h; omega) _).alloc _)
  have HAL3 : Hid (∀ b k, A = some ⟨b, k, none⟩ → w.heap.size + 1 < b ∧ b ≠ w2.heap.size) := Lib.hid (fun b k e => by have h3 : w1.heap.size ≤ b := (HAL.out b k e).1; have h4 := (HAL.out b k e).2; omega)
  have HML3 : Hid (∀ b k, M = some ⟨b, k, none⟩ → w.heap.size + 1 < b ∧ b ≠ w2.heap.size) := Lib.hid (fun b k e => by have h3 : w1.heap.size ≤ b := (HBL.out b k e).1; have h4 := (HBL.out b k e).2; omega)
  have ho : w.heap.size + 1 < w2.heap.size := T2.out.lt
  clear x0 x1 xf y0 y1 yf yl B2 S2 T2 U2 HA HB HAL HBL B1 S1 T1 U1
  generalize ((w2.setCell ⟨g, 0, none⟩ (.pointer (some ⟨w2.heap.size, 0, none⟩))).alloc (.cells #[.slice A 1 c, .slice M 1 d, .int .u64 due] 72)) = w3 at *
  generalize w2.heap.size = o at *
  have z0 : w3.cell? ⟨g, 0, none⟩ = some (.pointer (some ⟨o, 0, none⟩)) := B3.out.cell 0
  have q2 : w3.cell? ⟨o, 2, none⟩ = some (.int .u64 due) := O3.out.cell 2
  have tl := T3.out.lt
  have tf := T3.out.frz
  have t0 : w3.cell? ⟨w.heap.size + 1, 0, none⟩ = some (.bool false) := T3.out.cell 0
  have t2 : w3.cell? ⟨w.heap.size + 1, 2, none⟩ = some (.int .u64 0) := T3.out.cell 2
  have n1 := cell_far (show g ≠ w.heap.size + 1 by omega)
  have n2 := cell_far (show o ≠ w.heap.size + 1 by omega)
  go_wp2_with fail
  go_region_held3 (fun w' => w'.cell? ⟨g, 0, none⟩ = some (.pointer (some ⟨o, 0, none⟩)) ∧ w'.cell? ⟨o, 2, none⟩ = some (.int .u64 due)) (first | go_keep | (simp only [n1, n2, cell_drew]; exact ⟨z0, q2⟩)) (fail)
  have B4 : Hid (Blk ((w3.setCell ⟨w.heap.size + 1, 0, none⟩ (.bool true)).setCell ⟨w.heap.size + 1, 2, none⟩ (.int .u64 due)).drew g 69 #[.pointer (some ⟨o, 0, none⟩), .int .u64 win, .int .i64 most]) := Lib.hid (((B3.out.far (p := ⟨w.heap.size + 1, 0, none⟩) (show g ≠ w.heap.size + 1 by omega) _).far (p := ⟨w.heap.size + 1, 2, none⟩) (show g ≠ w.heap.size + 1 by omega) _).drew)
  have O4 : Hid (Blk ((w3.setCell ⟨w.heap.size + 1, 0, none⟩ (.bool true)).setCell ⟨w.heap.size + 1, 2, none⟩ (.int .u64 due)).drew o 72 #[.slice A 1 c, .slice M 1 d, .int .u64 due]) := Lib.hid (((O3.out.far (p := ⟨w.heap.size + 1, 0, none⟩) (show o ≠ w.heap.size + 1 by omega) _).far (p := ⟨w.heap.size + 1, 2, none⟩) (show o ≠ w.heap.size + 1 by omega) _).drew)
  have S4 : Hid (Blk ((w3.setCell ⟨w.heap.size + 1, 0, none⟩ (.bool true)).setCell ⟨w.heap.size + 1, 2, none⟩ (.int .u64 due)).drew w.heap.size 42 ZS) := Lib.hid (((S3.out.far (p := ⟨w.heap.size + 1, 0, none⟩) (show w.heap.size ≠ w.heap.size + 1 by omega) _).far (p := ⟨w.heap.size + 1, 2, none⟩) (show w.heap.size ≠ w.heap.size + 1 by omega) _).drew)
  have T4 : Hid (Blk ((w3.setCell ⟨w.heap.size + 1, 0, none⟩ (.bool true)).setCell ⟨w.heap.size + 1, 2, none⟩ (.int .u64 due)).drew (w.heap.size + 1) 42 #[.bool true, .bool false, .int .u64 due, .slice none 0 0, .slice none 0 0]) := Lib.hid (((T3.out.set 0 (.bool true)).set 2 (.int .u64 due)).drew)
  have U4 : Hid (Upd (At g) w ((w3.setCell ⟨w.heap.size + 1, 0, none⟩ (.bool true)).setCell ⟨w.heap.size + 1, 2, none⟩ (.int .u64 due)).drew) := Lib.hid (((U3.out.set (p := ⟨w.heap.size + 1, 0, none⟩) (.inr (Nat.le_succ _)) _).set (p := ⟨w.heap.size + 1, 2, none⟩) (.inr (Nat.le_succ _)) _).drew)
  have A4 : Hid (Sl ((w3.setCell ⟨w.heap.size + 1, 0, none⟩ (.bool true)).setCell ⟨w.heap.size + 1, 2, none⟩ (.int .u64 due)).drew A 1 c (nums [arg])) := Lib.hid (((A3.out.far (p := ⟨w.heap.size + 1, 0, none⟩) (fun b k e h => by have h2 : b = w.heap.size + 1 := h; have := (HAL3.out b k e).1; omega) _).far (p := ⟨w.heap.size + 1, 2, none⟩) (fun b k e h => by have h2 : b = w.heap.size + 1 := h; have := (HAL3.out b k e).1; omega) _).drew)
  have M4 : Hid (Sl ((w3.setCell ⟨w.heap.size + 1, 0, none⟩ (.bool true)).setCell ⟨w.heap.size + 1, 2, none⟩ (.int .u64 due)).drew M 1 d (prs [(id, 0)])) := Lib.hid (((M3.out.far (p := ⟨w.heap.size + 1, 0, none⟩) (fun b k e h => by have h2 : b = w.heap.size + 1 := h; have := (HML3.out b k e).1; omega) _).far (p := ⟨w.heap.size + 1, 2, none⟩) (fun b k e h => by have h2 : b = w.heap.size + 1 := h; have := (HML3.out b k e).1; omega) _).drew)
  clear z0 q2 tl tf t0 t2 n1 n2 B3 O3 S3 T3 U3 A3 M3
  generalize ((w3.setCell ⟨w.heap.size + 1, 0, none⟩ (.bool true)).setCell ⟨w.heap.size + 1, 2, none⟩ (.int .u64 due)).drew = w4 at *
  have hlo : w.heap.size < o := by omega
  have z0 : w4.cell? ⟨g, 0, none⟩ = some (.pointer (some ⟨o, 0, none⟩)) := B4.out.cell 0
  have z2 : w4.cell? ⟨g, 2, none⟩ = some (.int .i64 most) := B4.out.cell 2
  have q0 : w4.cell? ⟨o, 0, none⟩ = some (.slice A 1 c) := O4.out.cell 0
  have q1 : w4.cell? ⟨o, 1, none⟩ = some (.slice M 1 d) := O4.out.cell 1
  have hf : decide (((1 : Nat) : Int) ≥ most) = false := by simpa using hm
  have HF := Lib.hid hf
  clear hf
  go_wp2_with fail
  go_region_held3 (fun w' => w'.cell? ⟨g, 0, none⟩ = some (.pointer (some ⟨o, 0, none⟩)) ∧ w'.cell? ⟨g, 2, none⟩ = some (.int .i64 most) ∧ w'.cell? ⟨o, 0, none⟩ = some (.slice A 1 c) ∧ w'.cell? ⟨o, 1, none⟩ = some (.slice M 1 d)) (go_keep) ((go_at_call 24; refine (full_to HF.out (by omega) _).mono ?_; rintro e' w5 ⟨rfl, hd⟩; have hu := Upd.of_below hd (fun _ => False); have B5 := Lib.hid (B4.out.drew.upd hu (fun h => h)); have O5 := Lib.hid (O4.out.drew.upd hu (fun h => h)); have S5 := Lib.hid (S4.out.drew.upd hu (fun h => h)); have T5 := Lib.hid (T4.out.drew.upd hu (fun h => h)); have U5 := Lib.hid (U4.out.drew.trans hu (fun _ h => h.elim)); have A5 := Lib.hid (A4.out.drew.upd0 hu); have M5 := Lib.hid (M4.out.drew.upd0 hu); have z50 : w5.cell? ⟨g, 0, none⟩ = some (.pointer (some ⟨o, 0, none⟩)) := B5.out.cell 0; have z52 : w5.cell? ⟨g, 2, none⟩ = some (.int .i64 most) := B5.out.cell 2; have q50 : w5.cell? ⟨o, 0, none⟩ = some (.slice A 1 c) := O5.out.cell 0; have q51 : w5.cell? ⟨o, 1, none⟩ = some (.slice M 1 d) := O5.out.cell 1; clear hd hu))
  clear z0 z2 q0 q1 B4 O4 S4 T4 U4 A4 M4
  have tl := T5.out.lt
  have tf := T5.out.frz
  have B6 := B5
  clear B5
  have O6 := O5
  clear O5
  have S6 := S5
  clear S5
  have T6 := T5
  clear T5
  have U6 := U5
  clear U5
  have A6 := A5
  clear A5
  have M6 := M5
  clear M5
  clear z50 z52 q50 q51 tl tf
  have z0 : w5.cell? ⟨g, 0, none⟩ = some (.pointer (some ⟨o, 0, none⟩)) := B6.out.cell 0
  have t0 : w5.cell? ⟨w.heap.size + 1, 0, none⟩ = some (.bool true) := T6.out.cell 0
  have t1 : w5.cell? ⟨w.heap.size + 1, 1, none⟩ = some (.bool false) := T6.out.cell 1
  have t2 : w5.cell? ⟨w.heap.size + 1, 2, none⟩ = some (.int .u64 due) := T6.out.cell 2
  have t3 : w5.cell? ⟨w.heap.size + 1, 3, none⟩ = some (.slice none 0 0) := T6.out.cell 3
  have t4 : w5.cell? ⟨w.heap.size + 1, 4, none⟩ = some (.slice none 0 0) := T6.out.cell 4
  have s0 : w5.cell? ⟨w.heap.size, 0, none⟩ = some (.bool false) := S6.out.cell 0
  have s1 : w5.cell? ⟨w.heap.size, 1, none⟩ = some (.bool false) := S6.out.cell 1
  have s2 : w5.cell? ⟨w.heap.size, 2, none⟩ = some (.int .u64 0) := S6.out.cell 2
  have s3 : w5.cell? ⟨w.heap.size, 3, none⟩ = some (.slice none 0 0) := S6.out.cell 3
  have s4 : w5.cell? ⟨w.heap.size, 4, none⟩ = some (.slice none 0 0) := S6.out.cell 4
  have sl := S6.out.lt
  have sf := S6.out.frz
  have zl := B6.out.lt
  have zf := B6.out.frz
  have tl := T6.out.lt
  go_wp2
  have SF : Hid (Blk (W5 w5 w.heap.size (.bool true) (.bool false) (.int .u64 due) (.slice none 0 0) (.slice none 0 0)) w.heap.size 42 #[.bool true, .bool false, .int .u64 due, .slice none 0 0, .slice none 0 0]) := Lib.hid (Blk.w5 (.bool true) (.bool false) (.int .u64 due) (.slice none 0 0) (.slice none 0 0) S6.out)
  have BF : Hid (Blk (W5 w5 w.heap.size (.bool true) (.bool false) (.int .u64 due) (.slice none 0 0) (.slice none 0 0)) g 69 #[.pointer (some ⟨o, 0, none⟩), .int .u64 win, .int .i64 most]) := Lib.hid (Blk.w5f (.bool true) (.bool false) (.int .u64 due) (.slice none 0 0) (.slice none 0 0) B6.out (show g ≠ w.heap.size by omega))
  have OF : Hid (Blk (W5 w5 w.heap.size (.bool true) (.bool false) (.int .u64 due) (.slice none 0 0) (.slice none 0 0)) o 72 #[.slice A 1 c, .slice M 1 d, .int .u64 due]) := Lib.hid (Blk.w5f (.bool true) (.bool false) (.int .u64 due) (.slice none 0 0) (.slice none 0 0) O6.out (show o ≠ w.heap.size by omega))
  have UF : Hid (Upd (At g) w (W5 w5 w.heap.size (.bool true) (.bool false) (.int .u64 due) (.slice none 0 0) (.slice none 0 0))) := Lib.hid (Upd.w5 (.bool true) (.bool false) (.int .u64 due) (.slice none 0 0) (.slice none 0 0) U6.out (.inr (Nat.le_refl _)))
  have AF : Hid (Sl (W5 w5 w.heap.size (.bool true) (.bool false) (.int .u64 due) (.slice none 0 0) (.slice none 0 0)) A 1 c (nums [arg])) := Lib.hid (Sl.w5 (.bool true) (.bool false) (.int .u64 due) (.slice none 0 0) (.slice none 0 0) A6.out (fun b k e => by have := (HAL3.out b k e).1; omega))
  have MF : Hid (Sl (W5 w5 w.heap.size (.bool true) (.bool false) (.int .u64 due) (.slice none 0 0) (.slice none 0 0)) M 1 d (prs [(id, 0)])) := Lib.hid (Sl.w5 (.bool true) (.bool false) (.int .u64 due) (.slice none 0 0) (.slice none 0 0) M6.out (fun b k e => by have := (HML3.out b k e).1; omega))
  have lF := SF.out.lt
  have c0 : (W5 w5 w.heap.size (.bool true) (.bool false) (.int .u64 due) (.slice none 0 0) (.slice none 0 0)).cell? ⟨w.heap.size, 0, none⟩ = some (.bool true) := SF.out.cell 0
  have c1 : (W5 w5 w.heap.size (.bool true) (.bool false) (.int .u64 due) (.slice none 0 0) (.slice none 0 0)).cell? ⟨w.heap.size, 1, none⟩ = some (.bool false) := SF.out.cell 1
  have c2 : (W5 w5 w.heap.size (.bool true) (.bool false) (.int .u64 due) (.slice none 0 0) (.slice none 0 0)).cell? ⟨w.heap.size, 2, none⟩ = some (.int .u64 due) := SF.out.cell 2
  have c3 : (W5 w5 w.heap.size (.bool true) (.bool false) (.int .u64 due) (.slice none 0 0) (.slice none 0 0)).cell? ⟨w.heap.size, 3, none⟩ = some (.slice none 0 0) := SF.out.cell 3
  have c4 : (W5 w5 w.heap.size (.bool true) (.bool false) (.int .u64 due) (.slice none 0 0) (.slice none 0 0)).cell? ⟨w.heap.size, 4, none⟩ = some (.slice none 0 0) := SF.out.cell 4
  clear s0 s1 s2 s3 s4 t0 t1 t2 t3 t4 z0 sl sf zl zf tl
  refine bodyPost_ret (v := .agg #[.bool true, .bool false, .int .u64 due, .slice none 0 0, .slice none 0 0]) (by simp [results, Try.results13, go_sem, c0, c1, c2, c3, c4, lF]) rfl ⟨o, A, c, M, d, Nat.le_of_lt hlo, rfl, BF.out, OF.out, AF.out, MF.out, (fun b k e => ⟨Nat.le_of_lt (Nat.lt_of_succ_lt (HAL3.out b k e).1), (HAL3.out b k e).2⟩), (fun b k e => ⟨Nat.le_of_lt (Nat.lt_of_succ_lt (HML3.out b k e).1), (HML3.out b k e).2⟩), UF.out⟩
set_option maxRecDepth 100000 in
set_option maxHeartbeats 4000000 in
theorem cadd_old_ready {g o n m n' m' c d : Nat} {A M : Option Addr} {win most now id arg e : Int} {xs xs' : List Int} {ms ms' : List (Int × Int)} {ok : Bool} (hm : most ≤ (n' : Int)) (hb : badd xs ms id arg most = (xs', ms', ok)) (hxn : xs.length = n) (hmn : ms.length = m) (hxn' : xs'.length = n') (hmn' : ms'.length = m') (hn1 : n ≤ 900) (hm1 : m ≤ 900) (w : World) (h : Blk w g 69 #[.pointer (some ⟨o, 0, none⟩), .int .u64 win, .int .i64 most]) (hO : Blk w o 72 #[.slice A n c, .slice M m d, .int .u64 e]) (ha : Sl w A n c (nums xs)) (hmm : Sl w M m d (prs ms)) (hag : ∀ b k, A = some ⟨b, k, none⟩ → b < w.heap.size ∧ b ≠ g ∧ b ≠ o) (hmg : ∀ b k, M = some ⟨b, k, none⟩ → b < w.heap.size ∧ b ≠ g ∧ b ≠ o) :
    Calls Try.prog 13 #[.pointer (some ⟨g, 0, none⟩), .int .u64 now, .int .i64 id, .int .i64 arg] w fun e_ w' => ∃ A' c' M' d', e_ = .returned (.agg #[.bool false, .bool true, .int .u64 0, .slice A' n' c', .slice M' m' d']) ∧ Blk w' g 69 #[.pointer none, .int .u64 win, .int .i64 most] ∧ Sl w' A' n' c' (nums xs') ∧ Sl w' M' m' d' (prs ms') ∧ Nw w.heap.size A' A ∧ Nw w.heap.size M' M ∧ Upd (Fr2 g (some o)) w w' := by
  have HBB := Lib.hid hb
  have HXN := Lib.hid hxn
  have HMN := Lib.hid hmn
  have HXN' := Lib.hid hxn'
  have HMN' := Lib.hid hmn'
  have HAG := Lib.hid hag
  have HMG := Lib.hid hmg
  have hn2 : n' ≤ 901 := by
    have := badd_len1 xs ms id arg most
    rw [hb, hxn', hxn] at this
    omega
  have hgo : g ≠ o := Blk.ne h hO (by decide)
  have hlo := hO.lt
  have U0 : Hid (Upd (Fr2 g (some o)) w _) := Lib.hid (((Upd.refl (Fr2 g (some o)) w).alloc (.cells ZS 42)).alloc (.cells ZS 42))
  have B0 := Lib.hid ((h.alloc (.cells ZS 42)).alloc (.cells ZS 42))
  have O0 := Lib.hid ((hO.alloc (.cells ZS 42)).alloc (.cells ZS 42))
  have A0 := Lib.hid ((ha.alloc (.cells ZS 42)).alloc (.cells ZS 42))
  have M0 := Lib.hid ((hmm.alloc (.cells ZS 42)).alloc (.cells ZS 42))
  have S0 := Lib.hid ((Blk.new w ZS 42).alloc (.cells ZS 42))
  have T0 := Lib.hid (Blk.new1 w (.cells ZS 42) ZS 42)
  have hlt := h.lt
  have x0 : ((w.alloc (.cells ZS 42)).alloc (.cells ZS 42)).cell? ⟨g, 0, none⟩ = some (.pointer (some ⟨o, 0, none⟩)) := B0.out.cell 0
  clear h hb hxn hmn hxn' hmn' hO ha hmm hag hmg
  go_enter Try.func13, Try.ntmps13
  go_wp2_with fail
  refine (open_some _ B0.out).mono ?_
  rintro e1 w1 ⟨rfl, rfl⟩
  clear x0
  go_wp2_with fail
  refine Code.gen (fun W => Blk W g 69 #[.pointer (some ⟨o, 0, none⟩), .int .u64 win, .int .i64 most] ∧ Blk W w.heap.size 42 ZS ∧ Blk W (w.heap.size + 1) 42 ZS ∧ Upd (Fr2 g (some o)) w W ∧ Blk W o 72 #[.slice A n c, .slice M m d, .int .u64 e] ∧ Sl W A n c (nums xs) ∧ Sl W M m d (prs ms)) ⟨B0.out, S0.out, T0.out, U0.out, O0.out, A0.out, M0.out⟩ ?_
  rintro w1 ⟨qB, qS, qT, qU, qO, qA, qM⟩
  have B1 := Lib.hid qB
  have S1 := Lib.hid qS
  have T1 := Lib.hid qT
  have U1 := Lib.hid qU
  have O1 := Lib.hid qO
  have A1 := Lib.hid qA
  have M1 := Lib.hid qM
  clear qB qS qT qU qO qA qM
  clear B0 S0 T0 U0 O0 A0 M0
  have l1 := T1.out.lt
  have x0 : w1.cell? ⟨g, 0, none⟩ = some (.pointer (some ⟨o, 0, none⟩)) := B1.out.cell 0
  have x2 : w1.cell? ⟨g, 2, none⟩ = some (.int .i64 most) := B1.out.cell 2
  have q0 : w1.cell? ⟨o, 0, none⟩ = some (.slice A n c) := O1.out.cell 0
  have q1 : w1.cell? ⟨o, 1, none⟩ = some (.slice M m d) := O1.out.cell 1
  have xl := O1.out.lt
  have xf := O1.out.frz
  refine wp_region_invG 23 (by kernel_rfl) (by kernel_rfl) (At o) (fun (l_ : Bool) (j_ : Nat) (v_ : Value) (w_ : World) => (match l_, j_ with | _, 0 => v_ = .pointer (some ⟨g, 0, none⟩) | _, 1 => v_ = .pointer (some ⟨g, 0, none⟩) | _, 2 => v_ = .pointer (some ⟨g, 0, none⟩) | _, 3 => v_ = .pointer (some ⟨o, 0, none⟩) | _, 4 => v_ = .pointer (some ⟨g, 0, none⟩) | _, 5 => v_ = .pointer (some ⟨g, 0, none⟩) | _, 6 => v_ = .pointer (some ⟨g, 0, none⟩) | _, 7 => v_ = .pointer (some ⟨o, 0, none⟩) | _, 8 => v_ = .pointer (some ⟨o, 0, none⟩) | _, 9 => v_ = .pointer (some ⟨o, 0, none⟩) | _, 10 => v_ = .agg #[.slice A n c, .slice M m d] | _, 11 => v_ = .int .i64 id | _, 12 => v_ = .int .i64 arg | _, 13 => v_ = .pointer (some ⟨g, 0, none⟩) | _, 14 => v_ = .pointer (some ⟨g, 0, none⟩) | _, 15 => v_ = .pointer (some ⟨g, 2, none⟩) | _, 16 => v_ = .int .i64 most | false, 17 => ∃ A' c' M' d', v_ = .tuple #[.agg #[.slice A' n' c', .slice M' m' d'], .bool ok] ∧ Sl w_ A' n' c' (nums xs') ∧ Sl w_ M' m' d' (prs ms') ∧ Nw w1.heap.size A' A ∧ Nw w1.heap.size M' M | true, 17 => True | false, 18 => ∃ A' c' M' d', v_ = .tuple #[.agg #[.slice A' n' c', .slice M' m' d'], .bool ok] ∧ Sl w_ A' n' c' (nums xs') ∧ Sl w_ M' m' d' (prs ms') ∧ Nw w1.heap.size A' A ∧ Nw w1.heap.size M' M | true, 18 => ∃ A' c' M' d', v_ = .tuple #[.agg #[.slice A' n' c', .slice M' m' d'], .bool ok] | false, 19 => ∃ A' c' M' d', v_ = .agg #[.slice A' n' c', .slice M' m' d'] ∧ Sl w_ A' n' c' (nums xs') ∧ Sl w_ M' m' d' (prs ms') ∧ Nw w1.heap.size A' A ∧ Nw w1.heap.size M' M | true, 19 => ∃ A' c' M' d', v_ = .agg #[.slice A' n' c', .slice M' m' d'] ∧ Sl w_ A' n' c' (nums xs') ∧ Sl w_ M' m' d' (prs ms') ∧ Nw w1.heap.size A' A ∧ Nw w1.heap.size M' M ∧ Blk w_ o 72 #[.slice A' n' c', .slice M' m' d', .int .u64 e] | false, 20 => v_ = .bool ok | true, 20 => v_ = .bool ok | _, 21 => v_ = .pointer (some ⟨o, 0, none⟩) | _, 22 => v_ = .pointer (some ⟨o, 0, none⟩) | _, _ => True : Prop)) ?_ ?_ ?_ ?_
  · intro lm j v_ w1_ w2_ h hu
    rcases j with _ | _ | _ | _ | _ | _ | _ | _ | _ | _ | _ | _ | _ | _ | _ | _ | _ | _ | _ | _ | _ | _ | _ | _ | j
    · exact h
    · exact h
    · exact h
    · exact h
    · exact h
    · exact h
    · exact h
    · exact h
    · exact h
    · exact h
    · exact h
    · exact h
    · exact h
    · exact h
    · exact h
    · exact h
    · exact h
    · cases lm
      · skip
        obtain ⟨A', c', M', d', h1, h2, h3, h4, h5⟩ := h
        exact ⟨A', c', M', d', h1, h2.upd0 hu, h3.upd0 hu, h4, h5⟩
      · skip
        trivial
    · cases lm
      · skip
        obtain ⟨A', c', M', d', h1, h2, h3, h4, h5⟩ := h
        exact ⟨A', c', M', d', h1, h2.upd0 hu, h3.upd0 hu, h4, h5⟩
      · skip
        exact h
    · cases lm
      · skip
        obtain ⟨A', c', M', d', h1, h2, h3, h4, h5⟩ := h
        exact ⟨A', c', M', d', h1, h2.upd0 hu, h3.upd0 hu, h4, h5⟩
      · skip
        obtain ⟨A', c', M', d', h1, h2, h3, h4, h5, h6⟩ := h
        exact ⟨A', c', M', d', h1, h2.upd0 hu, h3.upd0 hu, h4, h5, h6.upd hu (fun h => h)⟩
    · cases lm
      · skip
        exact h
      · skip
        exact h
    · exact h
    · exact h
    · trivial
    · trivial
  · intro j o_ kd_ ho hne hkd_ a w' lm hF hM hD hX
    have hjn : j < 24 := by
      have := (Array.getElem?_eq_some_iff.1 ho).1
      simp at this
      omega
    rcases j with _ | _ | _ | _ | _ | _ | _ | _ | _ | _ | _ | _ | _ | _ | _ | _ | _ | _ | _ | _ | _ | _ | _ | _ | j
    all_goals (try (exfalso; omega))
    all_goals simp at ho
    all_goals subst ho
    all_goals simp at hkd_
    all_goals (try subst hkd_)
    · skip
      have elm : lm = false := by
        cases lm
        · rfl
        · exact absurd rfl (hM rfl _ rfl ⟨0, .phase⟩ (by simp) rfl).1
      subst elm
      have s0_ : a.tmps.getD 0 undef = .pointer (some ⟨g, 0, none⟩) := hF.keep 0 (by kernel_rfl)
      have s2_ : a.tmps.getD 2 undef = .int .i64 id := hF.keep 2 (by kernel_rfl)
      have s3_ : a.tmps.getD 3 undef = .int .i64 arg := hF.keep 3 (by kernel_rfl)
      clear hD
      unfold Oper.wp
      go_simp
      first | exact ⟨_, rfl, Upd.refl _ _, rfl⟩ | exact Upd.refl _ _
    · skip
      have elm : lm = false := by
        cases lm
        · rfl
        · exact absurd rfl (hM rfl _ rfl ⟨1, .phase⟩ (by simp) rfl).1
      subst elm
      have f0_ : a.tmps.getD 41 undef = .pointer (some ⟨g, 0, none⟩) := hD ⟨0, .data⟩ (by simp) rfl _ _ rfl rfl
      clear hD
      unfold Oper.wp
      go_simp
      first | exact ⟨_, rfl, Upd.refl _ _, rfl⟩ | exact Upd.refl _ _
    · skip
      have elm : lm = false := by
        cases lm
        · rfl
        · exact absurd rfl (hM rfl _ rfl ⟨2, .phase⟩ (by simp) rfl).1
      subst elm
      have s0_ : a.tmps.getD 0 undef = .pointer (some ⟨g, 0, none⟩) := hF.keep 0 (by kernel_rfl)
      have s2_ : a.tmps.getD 2 undef = .int .i64 id := hF.keep 2 (by kernel_rfl)
      have s3_ : a.tmps.getD 3 undef = .int .i64 arg := hF.keep 3 (by kernel_rfl)
      have f1_ : a.tmps.getD 42 undef = .pointer (some ⟨g, 0, none⟩) := hD ⟨1, .data⟩ (by simp) rfl _ _ rfl rfl
      clear hD
      unfold Oper.wp
      go_simp
      first | exact ⟨_, rfl, Upd.refl _ _, rfl⟩ | exact Upd.refl _ _
    · skip
      have elm : lm = false := by
        cases lm
        · rfl
        · exact absurd rfl (hM rfl _ rfl ⟨3, .phase⟩ (by simp) rfl).1
      subst elm
      have hF0 := hF.upd0 rfl
      have hBg := (B1.out.drew).upd hF0 (fun h => h)
      have hBo := (O1.out.drew).upd hF0 (fun h => h)
      have x0_ : w'.cell? ⟨g, 0, none⟩ = some (.pointer (some ⟨o, 0, none⟩)) := hBg.cell 0
      have x2_ : w'.cell? ⟨g, 2, none⟩ = some (.int .i64 most) := hBg.cell 2
      have q0_ : w'.cell? ⟨o, 0, none⟩ = some (.slice A n c) := hBo.cell 0
      have q1_ : w'.cell? ⟨o, 1, none⟩ = some (.slice M m d) := hBo.cell 1
      have hbs : w1.heap.size ≤ w'.heap.size := hF0.size
      have gl_ := hBg.lt
      have ol_ := hBo.lt
      have of_ := hBo.frz
      have s0_ : a.tmps.getD 0 undef = .pointer (some ⟨g, 0, none⟩) := hF.keep 0 (by kernel_rfl)
      have s2_ : a.tmps.getD 2 undef = .int .i64 id := hF.keep 2 (by kernel_rfl)
      have s3_ : a.tmps.getD 3 undef = .int .i64 arg := hF.keep 3 (by kernel_rfl)
      have f2_ : a.tmps.getD 43 undef = .pointer (some ⟨g, 0, none⟩) := hD ⟨2, .data⟩ (by simp) rfl _ _ rfl rfl
      clear hD
      unfold Oper.wp
      go_simp
      first | exact ⟨_, rfl, Upd.refl _ _, rfl⟩ | exact Upd.refl _ _
    · skip
      have elm : lm = false := by
        cases lm
        · rfl
        · exact absurd rfl (hM rfl _ rfl ⟨4, .phase⟩ (by simp) rfl).1
      subst elm
      have s0_ : a.tmps.getD 0 undef = .pointer (some ⟨g, 0, none⟩) := hF.keep 0 (by kernel_rfl)
      have s2_ : a.tmps.getD 2 undef = .int .i64 id := hF.keep 2 (by kernel_rfl)
      have s3_ : a.tmps.getD 3 undef = .int .i64 arg := hF.keep 3 (by kernel_rfl)
      clear hD
      unfold Oper.wp
      go_simp
      first | exact ⟨_, rfl, Upd.refl _ _, rfl⟩ | exact Upd.refl _ _
    · skip
      have elm : lm = false := by
        cases lm
        · rfl
        · exact absurd rfl (hM rfl _ rfl ⟨5, .phase⟩ (by simp) rfl).1
      subst elm
      have f4_ : a.tmps.getD 45 undef = .pointer (some ⟨g, 0, none⟩) := hD ⟨4, .data⟩ (by simp) rfl _ _ rfl rfl
      clear hD
      unfold Oper.wp
      go_simp
      first | exact ⟨_, rfl, Upd.refl _ _, rfl⟩ | exact Upd.refl _ _
    · skip
      have elm : lm = false := by
        cases lm
        · rfl
        · exact absurd rfl (hM rfl _ rfl ⟨6, .phase⟩ (by simp) rfl).1
      subst elm
      have s0_ : a.tmps.getD 0 undef = .pointer (some ⟨g, 0, none⟩) := hF.keep 0 (by kernel_rfl)
      have s2_ : a.tmps.getD 2 undef = .int .i64 id := hF.keep 2 (by kernel_rfl)
      have s3_ : a.tmps.getD 3 undef = .int .i64 arg := hF.keep 3 (by kernel_rfl)
      have f5_ : a.tmps.getD 46 undef = .pointer (some ⟨g, 0, none⟩) := hD ⟨5, .data⟩ (by simp) rfl _ _ rfl rfl
      clear hD
      unfold Oper.wp
      go_simp
      first | exact ⟨_, rfl, Upd.refl _ _, rfl⟩ | exact Upd.refl _ _
    · skip
      have elm : lm = false := by
        cases lm
        · rfl
        · exact absurd rfl (hM rfl _ rfl ⟨7, .phase⟩ (by simp) rfl).1
      subst elm
      have hF0 := hF.upd0 rfl
      have hBg := (B1.out.drew).upd hF0 (fun h => h)
      have hBo := (O1.out.drew).upd hF0 (fun h => h)
      have x0_ : w'.cell? ⟨g, 0, none⟩ = some (.pointer (some ⟨o, 0, none⟩)) := hBg.cell 0
      have x2_ : w'.cell? ⟨g, 2, none⟩ = some (.int .i64 most) := hBg.cell 2
      have q0_ : w'.cell? ⟨o, 0, none⟩ = some (.slice A n c) := hBo.cell 0
      have q1_ : w'.cell? ⟨o, 1, none⟩ = some (.slice M m d) := hBo.cell 1
      have hbs : w1.heap.size ≤ w'.heap.size := hF0.size
      have gl_ := hBg.lt
      have ol_ := hBo.lt
      have of_ := hBo.frz
      have s0_ : a.tmps.getD 0 undef = .pointer (some ⟨g, 0, none⟩) := hF.keep 0 (by kernel_rfl)
      have s2_ : a.tmps.getD 2 undef = .int .i64 id := hF.keep 2 (by kernel_rfl)
      have s3_ : a.tmps.getD 3 undef = .int .i64 arg := hF.keep 3 (by kernel_rfl)
      have f6_ : a.tmps.getD 47 undef = .pointer (some ⟨g, 0, none⟩) := hD ⟨6, .data⟩ (by simp) rfl _ _ rfl rfl
      clear hD
      unfold Oper.wp
      go_simp
      first | exact ⟨_, rfl, Upd.refl _ _, rfl⟩ | exact Upd.refl _ _
    · skip
      have elm : lm = false := by
        cases lm
        · rfl
        · exact absurd rfl (hM rfl _ rfl ⟨8, .phase⟩ (by simp) rfl).1
      subst elm
      have f7_ : a.tmps.getD 48 undef = .pointer (some ⟨o, 0, none⟩) := hD ⟨7, .data⟩ (by simp) rfl _ _ rfl rfl
      clear hD
      unfold Oper.wp
      go_simp
      first | exact ⟨_, rfl, Upd.refl _ _, rfl⟩ | exact Upd.refl _ _
    · skip
      have elm : lm = false := by
        cases lm
        · rfl
        · exact absurd rfl (hM rfl _ rfl ⟨9, .phase⟩ (by simp) rfl).1
      subst elm
      have s0_ : a.tmps.getD 0 undef = .pointer (some ⟨g, 0, none⟩) := hF.keep 0 (by kernel_rfl)
      have s2_ : a.tmps.getD 2 undef = .int .i64 id := hF.keep 2 (by kernel_rfl)
      have s3_ : a.tmps.getD 3 undef = .int .i64 arg := hF.keep 3 (by kernel_rfl)
      have f8_ : a.tmps.getD 49 undef = .pointer (some ⟨o, 0, none⟩) := hD ⟨8, .data⟩ (by simp) rfl _ _ rfl rfl
      clear hD
      unfold Oper.wp
      go_simp
      first | exact ⟨_, rfl, Upd.refl _ _, rfl⟩ | exact Upd.refl _ _
    · skip
      have elm : lm = false := by
        cases lm
        · rfl
        · exact absurd rfl (hM rfl _ rfl ⟨10, .phase⟩ (by simp) rfl).1
      subst elm
      have hF0 := hF.upd0 rfl
      have hBg := (B1.out.drew).upd hF0 (fun h => h)
      have hBo := (O1.out.drew).upd hF0 (fun h => h)
      have x0_ : w'.cell? ⟨g, 0, none⟩ = some (.pointer (some ⟨o, 0, none⟩)) := hBg.cell 0
      have x2_ : w'.cell? ⟨g, 2, none⟩ = some (.int .i64 most) := hBg.cell 2
      have q0_ : w'.cell? ⟨o, 0, none⟩ = some (.slice A n c) := hBo.cell 0
      have q1_ : w'.cell? ⟨o, 1, none⟩ = some (.slice M m d) := hBo.cell 1
      have hbs : w1.heap.size ≤ w'.heap.size := hF0.size
      have gl_ := hBg.lt
      have ol_ := hBo.lt
      have of_ := hBo.frz
      have s0_ : a.tmps.getD 0 undef = .pointer (some ⟨g, 0, none⟩) := hF.keep 0 (by kernel_rfl)
      have s2_ : a.tmps.getD 2 undef = .int .i64 id := hF.keep 2 (by kernel_rfl)
      have s3_ : a.tmps.getD 3 undef = .int .i64 arg := hF.keep 3 (by kernel_rfl)
      have f9_ : a.tmps.getD 50 undef = .pointer (some ⟨o, 0, none⟩) := hD ⟨9, .data⟩ (by simp) rfl _ _ rfl rfl
      clear hD
      unfold Oper.wp
      go_simp
      first | exact ⟨_, rfl, Upd.refl _ _, rfl⟩ | exact Upd.refl _ _
    · skip
      have elm : lm = false := by
        cases lm
        · rfl
        · exact absurd rfl (hM rfl _ rfl ⟨11, .phase⟩ (by simp) rfl).1
      subst elm
      have s0_ : a.tmps.getD 0 undef = .pointer (some ⟨g, 0, none⟩) := hF.keep 0 (by kernel_rfl)
      have s2_ : a.tmps.getD 2 undef = .int .i64 id := hF.keep 2 (by kernel_rfl)
      have s3_ : a.tmps.getD 3 undef = .int .i64 arg := hF.keep 3 (by kernel_rfl)
      clear hD
      unfold Oper.wp
      go_simp
      first | exact ⟨_, rfl, Upd.refl _ _, rfl⟩ | exact Upd.refl _ _
    · skip
      have elm : lm = false := by
        cases lm
        · rfl
        · exact absurd rfl (hM rfl _ rfl ⟨12, .phase⟩ (by simp) rfl).1
      subst elm
      have s0_ : a.tmps.getD 0 undef = .pointer (some ⟨g, 0, none⟩) := hF.keep 0 (by kernel_rfl)
      have s2_ : a.tmps.getD 2 undef = .int .i64 id := hF.keep 2 (by kernel_rfl)
      have s3_ : a.tmps.getD 3 undef = .int .i64 arg := hF.keep 3 (by kernel_rfl)
      clear hD
      unfold Oper.wp
      go_simp
      first | exact ⟨_, rfl, Upd.refl _ _, rfl⟩ | exact Upd.refl _ _
    · skip
      have elm : lm = false := by
        cases lm
        · rfl
        · exact absurd rfl (hM rfl _ rfl ⟨13, .phase⟩ (by simp) rfl).1
      subst elm
      have s0_ : a.tmps.getD 0 undef = .pointer (some ⟨g, 0, none⟩) := hF.keep 0 (by kernel_rfl)
      have s2_ : a.tmps.getD 2 undef = .int .i64 id := hF.keep 2 (by kernel_rfl)
      have s3_ : a.tmps.getD 3 undef = .int .i64 arg := hF.keep 3 (by kernel_rfl)
      clear hD
      unfold Oper.wp
      go_simp
      first | exact ⟨_, rfl, Upd.refl _ _, rfl⟩ | exact Upd.refl _ _
    · skip
      have elm : lm = false := by
        cases lm
        · rfl
        · exact absurd rfl (hM rfl _ rfl ⟨14, .phase⟩ (by simp) rfl).1
      subst elm
      have f13_ : a.tmps.getD 54 undef = .pointer (some ⟨g, 0, none⟩) := hD ⟨13, .data⟩ (by simp) rfl _ _ rfl rfl
      clear hD
      unfold Oper.wp
      go_simp
      first | exact ⟨_, rfl, Upd.refl _ _, rfl⟩ | exact Upd.refl _ _
    · skip
      have elm : lm = false := by
        cases lm
        · rfl
        · exact absurd rfl (hM rfl _ rfl ⟨15, .phase⟩ (by simp) rfl).1
      subst elm
      have s0_ : a.tmps.getD 0 undef = .pointer (some ⟨g, 0, none⟩) := hF.keep 0 (by kernel_rfl)
      have s2_ : a.tmps.getD 2 undef = .int .i64 id := hF.keep 2 (by kernel_rfl)
      have s3_ : a.tmps.getD 3 undef = .int .i64 arg := hF.keep 3 (by kernel_rfl)
      have f14_ : a.tmps.getD 55 undef = .pointer (some ⟨g, 0, none⟩) := hD ⟨14, .data⟩ (by simp) rfl _ _ rfl rfl
      clear hD
      unfold Oper.wp
      go_simp
      first | exact ⟨_, rfl, Upd.refl _ _, rfl⟩ | exact Upd.refl _ _
    · skip
      have elm : lm = false := by
        cases lm
        · rfl
        · exact absurd rfl (hM rfl _ rfl ⟨16, .phase⟩ (by simp) rfl).1
      subst elm
      have hF0 := hF.upd0 rfl
      have hBg := (B1.out.drew).upd hF0 (fun h => h)
      have hBo := (O1.out.drew).upd hF0 (fun h => h)
      have x0_ : w'.cell? ⟨g, 0, none⟩ = some (.pointer (some ⟨o, 0, none⟩)) := hBg.cell 0
      have x2_ : w'.cell? ⟨g, 2, none⟩ = some (.int .i64 most) := hBg.cell 2
      have q0_ : w'.cell? ⟨o, 0, none⟩ = some (.slice A n c) := hBo.cell 0
      have q1_ : w'.cell? ⟨o, 1, none⟩ = some (.slice M m d) := hBo.cell 1
      have hbs : w1.heap.size ≤ w'.heap.size := hF0.size
      have gl_ := hBg.lt
      have ol_ := hBo.lt
      have of_ := hBo.frz
      have s0_ : a.tmps.getD 0 undef = .pointer (some ⟨g, 0, none⟩) := hF.keep 0 (by kernel_rfl)
      have s2_ : a.tmps.getD 2 undef = .int .i64 id := hF.keep 2 (by kernel_rfl)
      have s3_ : a.tmps.getD 3 undef = .int .i64 arg := hF.keep 3 (by kernel_rfl)
      have f15_ : a.tmps.getD 56 undef = .pointer (some ⟨g, 2, none⟩) := hD ⟨15, .data⟩ (by simp) rfl _ _ rfl rfl
      clear hD
      unfold Oper.wp
      go_simp
      first | exact ⟨_, rfl, Upd.refl _ _, rfl⟩ | exact Upd.refl _ _
    · skip
      have elm : lm = false := by
        cases lm
        · rfl
        · exact absurd rfl (hM rfl _ rfl ⟨17, .chain⟩ (by simp) rfl).1
      subst elm
      have hF0 := hF.upd0 rfl
      have hBg := (B1.out.drew).upd hF0 (fun h => h)
      have hBo := (O1.out.drew).upd hF0 (fun h => h)
      have x0_ : w'.cell? ⟨g, 0, none⟩ = some (.pointer (some ⟨o, 0, none⟩)) := hBg.cell 0
      have x2_ : w'.cell? ⟨g, 2, none⟩ = some (.int .i64 most) := hBg.cell 2
      have q0_ : w'.cell? ⟨o, 0, none⟩ = some (.slice A n c) := hBo.cell 0
      have q1_ : w'.cell? ⟨o, 1, none⟩ = some (.slice M m d) := hBo.cell 1
      have hbs : w1.heap.size ≤ w'.heap.size := hF0.size
      have gl_ := hBg.lt
      have ol_ := hBo.lt
      have of_ := hBo.frz
      have s0_ : a.tmps.getD 0 undef = .pointer (some ⟨g, 0, none⟩) := hF.keep 0 (by kernel_rfl)
      have s2_ : a.tmps.getD 2 undef = .int .i64 id := hF.keep 2 (by kernel_rfl)
      have s3_ : a.tmps.getD 3 undef = .int .i64 arg := hF.keep 3 (by kernel_rfl)
      have f10_ : a.tmps.getD 51 undef = .agg #[.slice A n c, .slice M m d] := hD ⟨10, .data⟩ (by simp) rfl _ _ rfl rfl
      have f11_ : a.tmps.getD 52 undef = .int .i64 id := hD ⟨11, .data⟩ (by simp) rfl _ _ rfl rfl
      have f12_ : a.tmps.getD 53 undef = .int .i64 arg := hD ⟨12, .data⟩ (by simp) rfl _ _ rfl rfl
      have f16_ : a.tmps.getD 57 undef = .int .i64 most := hD ⟨16, .data⟩ (by simp) rfl _ _ rfl rfl
      have HAL := Lib.hid (A1.out.drew.upd0 hF0)
      have HML := Lib.hid (M1.out.drew.upd0 hF0)
      have HBS := Lib.hid hbs
      clear hD
      unfold Oper.wp
      go_simp
      refine (add_to HBB.out HXN.out HMN.out HXN'.out HMN'.out (by omega) (by omega) _ HAL.out HML.out).mono ?_
      rintro e' w2_ ⟨A', c', M', d', rfl, ha, hb, hna, hnm, hd⟩
      exact ⟨_, rfl, Upd.of_below hd _, ⟨A', c', M', d', rfl, ha, hb, hna.mono HBS.out, hnm.mono HBS.out⟩⟩
    · skip
      have elm : lm = false := by
        cases lm
        · rfl
        · exact absurd rfl (hM rfl _ rfl ⟨18, .phase⟩ (by simp) rfl).1
      subst elm
      have s0_ : a.tmps.getD 0 undef = .pointer (some ⟨g, 0, none⟩) := hF.keep 0 (by kernel_rfl)
      have s2_ : a.tmps.getD 2 undef = .int .i64 id := hF.keep 2 (by kernel_rfl)
      have s3_ : a.tmps.getD 3 undef = .int .i64 arg := hF.keep 3 (by kernel_rfl)
      have f17_ : (fun (v_ : Value) (w_ : World) => ∃ A' c' M' d', v_ = .tuple #[.agg #[.slice A' n' c', .slice M' m' d'], .bool ok] ∧ Sl w_ A' n' c' (nums xs') ∧ Sl w_ M' m' d' (prs ms') ∧ Nw w1.heap.size A' A ∧ Nw w1.heap.size M' M) (a.tmps.getD 58 undef) w' := hD ⟨17, .data⟩ (by simp) rfl _ _ rfl rfl
      obtain ⟨A', c', M', d', h1_, hfs⟩ := f17_
      clear hD
      unfold Oper.wp
      go_simp
      exact ⟨_, rfl, Upd.refl _ _, ⟨A', c', M', d', rfl, hfs⟩⟩
    · skip
      have elm : lm = false := by
        cases lm
        · rfl
        · exact absurd rfl (hM rfl _ rfl ⟨19, .data⟩ (by simp) rfl).1
      subst elm
      have f18_ : (fun (v_ : Value) (w_ : World) => ∃ A' c' M' d', v_ = .tuple #[.agg #[.slice A' n' c', .slice M' m' d'], .bool ok] ∧ Sl w_ A' n' c' (nums xs') ∧ Sl w_ M' m' d' (prs ms') ∧ Nw w1.heap.size A' A ∧ Nw w1.heap.size M' M) (a.tmps.getD 40 undef) w' := hD ⟨18, .data⟩ (by simp) rfl _ _ rfl rfl
      obtain ⟨A', c', M', d', h1_, hfs⟩ := f18_
      clear hD
      unfold Oper.wp
      go_simp
      exact ⟨_, rfl, Upd.refl _ _, ⟨A', c', M', d', rfl, hfs⟩⟩
    · skip
      cases lm
      · skip
        have f18_ : (fun (v_ : Value) (w_ : World) => ∃ A' c' M' d', v_ = .tuple #[.agg #[.slice A' n' c', .slice M' m' d'], .bool ok] ∧ Sl w_ A' n' c' (nums xs') ∧ Sl w_ M' m' d' (prs ms') ∧ Nw w1.heap.size A' A ∧ Nw w1.heap.size M' M) (a.tmps.getD 40 undef) w' := hD ⟨18, .data⟩ (by simp) rfl _ _ rfl rfl
        obtain ⟨A', c', M', d', h1_, hfs⟩ := f18_
        clear hD
        unfold Oper.wp
        go_simp
        first | exact ⟨_, rfl, Upd.refl _ _, rfl⟩ | exact Upd.refl _ _
      · skip
        have f18_ : (fun (v_ : Value) (w_ : World) => ∃ A' c' M' d', v_ = .tuple #[.agg #[.slice A' n' c', .slice M' m' d'], .bool ok]) (a.tmps.getD 40 undef) w' := hD ⟨18, .data⟩ (by simp) rfl _ _ rfl rfl
        obtain ⟨A', c', M', d', h1_⟩ := f18_
        clear hD
        unfold Oper.wp
        go_simp
        first | exact ⟨_, rfl, Upd.refl _ _, rfl⟩ | exact Upd.refl _ _
    · skip
      have elm : lm = false := by
        cases lm
        · rfl
        · exact absurd rfl ((hM rfl _ rfl ⟨22, .data⟩ (by simp) rfl).2 _ rfl ⟨21, .data⟩ (by simp) rfl)
      subst elm
      have f3_ : a.tmps.getD 44 undef = .pointer (some ⟨o, 0, none⟩) := hD ⟨3, .data⟩ (by simp) rfl _ _ rfl rfl
      clear hD
      unfold Oper.wp
      go_simp
      first | exact ⟨_, rfl, Upd.refl _ _, rfl⟩ | exact Upd.refl _ _
    · skip
      have elm : lm = false := by
        cases lm
        · rfl
        · exact absurd rfl (hM rfl _ rfl ⟨22, .data⟩ (by simp) rfl).1
      subst elm
      have s0_ : a.tmps.getD 0 undef = .pointer (some ⟨g, 0, none⟩) := hF.keep 0 (by kernel_rfl)
      have s2_ : a.tmps.getD 2 undef = .int .i64 id := hF.keep 2 (by kernel_rfl)
      have s3_ : a.tmps.getD 3 undef = .int .i64 arg := hF.keep 3 (by kernel_rfl)
      have f21_ : a.tmps.getD 61 undef = .pointer (some ⟨o, 0, none⟩) := hD ⟨21, .data⟩ (by simp) rfl _ _ rfl rfl
      clear hD
      unfold Oper.wp
      go_simp
      first | exact ⟨_, rfl, Upd.refl _ _, rfl⟩ | exact Upd.refl _ _
  · intro o_ ho a w' hF hD
    have hF0 := hF.upd0 rfl
    simp at ho
    subst ho
    have f22_ : a.tmps.getD 62 undef = .pointer (some ⟨o, 0, none⟩) := hD ⟨22, .data⟩ (by simp) rfl _ _ rfl rfl
    have f19_ : (fun (v_ : Value) (w_ : World) => ∃ A' c' M' d', v_ = .agg #[.slice A' n' c', .slice M' m' d'] ∧ Sl w_ A' n' c' (nums xs') ∧ Sl w_ M' m' d' (prs ms') ∧ Nw w1.heap.size A' A ∧ Nw w1.heap.size M' M) (a.tmps.getD 59 undef) w' := hD ⟨19, .data⟩ (by simp) rfl _ _ rfl rfl
    have hBg := (B1.out.drew).upd hF0 (fun h => h)
    have hBo := (O1.out.drew).upd hF0 (fun h => h)
    have x0_ : w'.cell? ⟨g, 0, none⟩ = some (.pointer (some ⟨o, 0, none⟩)) := hBg.cell 0
    have x2_ : w'.cell? ⟨g, 2, none⟩ = some (.int .i64 most) := hBg.cell 2
    have q0_ : w'.cell? ⟨o, 0, none⟩ = some (.slice A n c) := hBo.cell 0
    have q1_ : w'.cell? ⟨o, 1, none⟩ = some (.slice M m d) := hBo.cell 1
    have hbs : w1.heap.size ≤ w'.heap.size := hF0.size
    have gl_ := hBg.lt
    have ol_ := hBo.lt
    have of_ := hBo.frz
    clear hD
    obtain ⟨A', c', M', d', h1_, hfa, hfm, hna, hnm⟩ := f19_
    have EQ := Lib.hid h1_
    have sA : ∀ b k, A' = some ⟨b, k, none⟩ → b ≠ o := (fun b k e => by
    rcases hna b k e with h | h
    · subst h
      exact (HAG.out b k e).2.2
    · have h3 : w1.heap.size ≤ b := h
      omega)
    have sM : ∀ b k, M' = some ⟨b, k, none⟩ → b ≠ o := (fun b k e => by
    rcases hnm b k e with h | h
    · subst h
      exact (HMG.out b k e).2.2
    · have h3 : w1.heap.size ≤ b := h
      omega)
    have HA_ : Hid (Sl ((w'.setCell ⟨o, 0, none⟩ (.slice A' n' c')).setCell ⟨o, 1, none⟩ (.slice M' m' d')) A' n' c' (nums xs')) := Lib.hid ((hfa.far (p := ⟨o, 0, none⟩) sA _).far (p := ⟨o, 1, none⟩) sA _)
    have HM_ : Hid (Sl ((w'.setCell ⟨o, 0, none⟩ (.slice A' n' c')).setCell ⟨o, 1, none⟩ (.slice M' m' d')) M' m' d' (prs ms')) := Lib.hid ((hfm.far (p := ⟨o, 0, none⟩) sM _).far (p := ⟨o, 1, none⟩) sM _)
    have HO_ : Hid (Blk ((w'.setCell ⟨o, 0, none⟩ (.slice A' n' c')).setCell ⟨o, 1, none⟩ (.slice M' m' d')) o 72 #[.slice A' n' c', .slice M' m' d', .int .u64 e]) := Lib.hid ((hBo.set 0 (.slice A' n' c')).set 1 (.slice M' m' d'))
    have HU_ : Hid (Upd (At o) w1.drew ((w'.setCell ⟨o, 0, none⟩ (.slice A' n' c')).setCell ⟨o, 1, none⟩ (.slice M' m' d'))) := Lib.hid (((hF.upd.put 0 (.slice A' n' c')).put 1 (.slice M' m' d')))
    have h1_' : a.tmps[59]?.getD undef = .agg #[.slice A' n' c', .slice M' m' d'] := by rw [← Array.getD_eq_getD_getElem?]; exact h1_
    clear hfa hfm hna hnm sA sM hF hF0 hBg
    unfold Oper.wp
    go_simp
    refine ⟨HU_.out, ?_⟩
    intro j o' k hj hk h
    have hjn : j < 24 := by
      have := (List.getElem?_eq_some_iff.1 hj).1
      simp at this
      omega
    rcases j with _ | _ | _ | _ | _ | _ | _ | _ | _ | _ | _ | _ | _ | _ | _ | _ | _ | _ | _ | _ | _ | _ | _ | _ | j
    all_goals (try (exfalso; omega))
    all_goals simp at hj
    all_goals subst hj
    all_goals simp at hk
    all_goals (try subst hk)
    · exact h
    · exact h
    · exact h
    · exact h
    · exact h
    · exact h
    · exact h
    · exact h
    · exact h
    · exact h
    · exact h
    · exact h
    · exact h
    · exact h
    · exact h
    · exact h
    · exact h
    · skip
      trivial
    · skip
      obtain ⟨A', c', M', d', h1, _⟩ := h
      exact ⟨A', c', M', d', h1⟩
    · skip
      obtain ⟨A9, c9, M9, d9, h1, hfa, hfm, hna, hnm⟩ := h
      rw [← Array.getD_eq_getD_getElem?] at h1
      have e9 := EQ.out.symm.trans h1
      simp only [Value.agg.injEq, List.toArray, Array.mk.injEq, List.cons.injEq, Value.slice.injEq, and_true, true_and] at e9
      obtain ⟨⟨rfl, rfl⟩, rfl, rfl⟩ := e9
      exact ⟨_, _, _, _, (by rw [← Array.getD_eq_getD_getElem?]; exact h1), HA_.out, HM_.out, hna, hnm, HO_.out⟩
    · skip
      exact h
    · exact h
    · exact h
  · intro a w' hF hD
    have f19_ : (fun (v_ : Value) (w_ : World) => ∃ A' c' M' d', v_ = .agg #[.slice A' n' c', .slice M' m' d'] ∧ Sl w_ A' n' c' (nums xs') ∧ Sl w_ M' m' d' (prs ms') ∧ Nw w1.heap.size A' A ∧ Nw w1.heap.size M' M ∧ Blk w_ o 72 #[.slice A' n' c', .slice M' m' d', .int .u64 e]) (a.tmps.getD 59 undef) w' := hD 19 _ _ rfl rfl
    obtain ⟨A', c', M', d', g19_, hfa, hfm, hna, hnm, hob⟩ := f19_
    have B4 := Lib.hid ((B1.out.drew).upd hF.upd hgo)
    have O4 := Lib.hid hob
    have S4 := Lib.hid ((S1.out.drew).upd hF.upd (show w.heap.size ≠ o by omega))
    have T4 := Lib.hid ((T1.out.drew).upd hF.upd (show w.heap.size + 1 ≠ o by omega))
    have U4 := Lib.hid ((U1.out.drew).trans hF.upd (fun k hk => .inl (.inr (congrArg some (show k = o from hk).symm))))
    have A4 := Lib.hid hfa
    have M4 := Lib.hid hfm
    have HNA := Lib.hid hna
    have HNM := Lib.hid hnm
    clear hfa hfm hna hnm hob
    have HF_ := Lib.hid hF
    clear hF hD
    rw [HF_.out.act [false, false, false, false, false, false, false, false, false, false, false, false, false, false, false, false, false, false, false, false, false, false, false, false, false, false, false, false, false, false, false, false, false, false, false, false, false, false, false, false, true, true, true, true, true, true, true, true, true, true, true, true, true, true, true, true, true, true, true, true, true, true, true, false, false, false, false, false, false, false, false, false, false, false, false, false, false, false, false, false, false, false, false, false, false, false, false, false] (by kernel_rfl)]
    simp only [pickv, Nat.reduceAdd, Nat.zero_add]
    clear HF_ g19_
    generalize a.tmps.getD 40 undef = u40_
    generalize a.tmps.getD 41 undef = u41_
    generalize a.tmps.getD 42 undef = u42_
    generalize a.tmps.getD 43 undef = u43_
    generalize a.tmps.getD 44 undef = u44_
    generalize a.tmps.getD 45 undef = u45_
    generalize a.tmps.getD 46 undef = u46_
    generalize a.tmps.getD 47 undef = u47_
    generalize a.tmps.getD 48 undef = u48_
    generalize a.tmps.getD 49 undef = u49_
    generalize a.tmps.getD 50 undef = u50_
    generalize a.tmps.getD 51 undef = u51_
    generalize a.tmps.getD 52 undef = u52_
    generalize a.tmps.getD 53 undef = u53_
    generalize a.tmps.getD 54 undef = u54_
    generalize a.tmps.getD 55 undef = u55_
    generalize a.tmps.getD 56 undef = u56_
    generalize a.tmps.getD 57 undef = u57_
    generalize a.tmps.getD 58 undef = u58_
    generalize a.tmps.getD 59 undef = u59_
    generalize a.tmps.getD 60 undef = u60_
    generalize a.tmps.getD 61 undef = u61_
    generalize a.tmps.getD 62 undef = u62_
    generalize w' = w4 at *
    have HAL3 : Hid (∀ b k, A' = some ⟨b, k, none⟩ → b ≠ g ∧ b ≠ o ∧ b ≠ w.heap.size ∧ b ≠ w.heap.size + 1) := Lib.hid (fun b k e => by
      rcases HNA.out b k e with h | h
      · subst h
        obtain ⟨h1, h2, h3⟩ := HAG.out b k e
        exact ⟨h2, h3, by omega, by omega⟩
      · have h3 : w1.heap.size ≤ b := h
        have : g < w1.heap.size := by omega
        refine ⟨?_, ?_, ?_, ?_⟩ <;> omega)
    have HML3 : Hid (∀ b k, M' = some ⟨b, k, none⟩ → b ≠ g ∧ b ≠ o ∧ b ≠ w.heap.size ∧ b ≠ w.heap.size + 1) := Lib.hid (fun b k e => by
      rcases HNM.out b k e with h | h
      · subst h
        obtain ⟨h1, h2, h3⟩ := HMG.out b k e
        exact ⟨h2, h3, by omega, by omega⟩
      · have h3 : w1.heap.size ≤ b := h
        have : g < w1.heap.size := by omega
        refine ⟨?_, ?_, ?_, ?_⟩ <;> omega)
    have NA4 : Hid (Nw w.heap.size A' A) := Lib.hid (HNA.out.mono (show w.heap.size ≤ w1.heap.size by omega))
    have NM4 : Hid (Nw w.heap.size M' M) := Lib.hid (HNM.out.mono (show w.heap.size ≤ w1.heap.size by omega))
    clear x0 x2 q0 q1 xl xf HNA HNM B1 O1 S1 T1 U1 A1 M1
    have z0 : w4.cell? ⟨g, 0, none⟩ = some (.pointer (some ⟨o, 0, none⟩)) := B4.out.cell 0
    have z2 : w4.cell? ⟨g, 2, none⟩ = some (.int .i64 most) := B4.out.cell 2
    have q0 : w4.cell? ⟨o, 0, none⟩ = some (.slice A' n' c') := O4.out.cell 0
    have q1 : w4.cell? ⟨o, 1, none⟩ = some (.slice M' m' d') := O4.out.cell 1
    have hf : decide ((n' : Int) ≥ most) = true := by simpa using hm
    have HF := Lib.hid hf
    clear hf
    go_wp2_with fail
    go_region_held3 (fun w' => w'.cell? ⟨g, 0, none⟩ = some (.pointer (some ⟨o, 0, none⟩)) ∧ w'.cell? ⟨g, 2, none⟩ = some (.int .i64 most) ∧ w'.cell? ⟨o, 0, none⟩ = some (.slice A' n' c') ∧ w'.cell? ⟨o, 1, none⟩ = some (.slice M' m' d')) (go_keep) ((go_at_call 24; refine (full_to HF.out (by omega) _).mono ?_; rintro e' w5 ⟨rfl, hd⟩; have hu := Upd.of_below hd (fun _ => False); have B5 := Lib.hid (B4.out.drew.upd hu (fun h => h)); have O5 := Lib.hid (O4.out.drew.upd hu (fun h => h)); have S5 := Lib.hid (S4.out.drew.upd hu (fun h => h)); have T5 := Lib.hid (T4.out.drew.upd hu (fun h => h)); have U5 := Lib.hid (U4.out.drew.trans hu (fun _ h => h.elim)); have A5 := Lib.hid (A4.out.drew.upd0 hu); have M5 := Lib.hid (M4.out.drew.upd0 hu); have z50 : w5.cell? ⟨g, 0, none⟩ = some (.pointer (some ⟨o, 0, none⟩)) := B5.out.cell 0; have z52 : w5.cell? ⟨g, 2, none⟩ = some (.int .i64 most) := B5.out.cell 2; have q50 : w5.cell? ⟨o, 0, none⟩ = some (.slice A' n' c') := O5.out.cell 0; have q51 : w5.cell? ⟨o, 1, none⟩ = some (.slice M' m' d') := O5.out.cell 1; clear hd hu))
    clear z0 z2 q0 q1 B4 O4 S4 T4 U4 A4 M4
    have tl := T5.out.lt
    have tf := T5.out.frz
    have t1 : w5.cell? ⟨w.heap.size + 1, 1, none⟩ = some (.bool false) := T5.out.cell 1
    have t3 : w5.cell? ⟨w.heap.size + 1, 3, none⟩ = some (.slice none 0 0) := T5.out.cell 3
    have t4 : w5.cell? ⟨w.heap.size + 1, 4, none⟩ = some (.slice none 0 0) := T5.out.cell 4
    have n1 := cell_far (show g ≠ w.heap.size + 1 by omega)
    have n2 := cell_far (show o ≠ w.heap.size + 1 by omega)
    go_wp2_with fail
    go_region_held3 (fun w' => w'.cell? ⟨g, 0, none⟩ = some (.pointer (some ⟨o, 0, none⟩)) ∧ w'.cell? ⟨o, 0, none⟩ = some (.slice A' n' c') ∧ w'.cell? ⟨o, 1, none⟩ = some (.slice M' m' d')) (first | go_keep | (simp only [n1, n2, cell_drew]; exact ⟨z50, q50, q51⟩)) (fail)
    have B6 : Hid (Blk (((w5.setCell ⟨w.heap.size + 1, 1, none⟩ (.bool true)).setCell ⟨w.heap.size + 1, 3, none⟩ (.slice A' n' c')).setCell ⟨w.heap.size + 1, 4, none⟩ (.slice M' m' d')).drew g 69 #[.pointer (some ⟨o, 0, none⟩), .int .u64 win, .int .i64 most]) := Lib.hid ((((B5.out.far (p := ⟨w.heap.size + 1, 1, none⟩) (show g ≠ w.heap.size + 1 by omega) _).far (p := ⟨w.heap.size + 1, 3, none⟩) (show g ≠ w.heap.size + 1 by omega) _).far (p := ⟨w.heap.size + 1, 4, none⟩) (show g ≠ w.heap.size + 1 by omega) _).drew)
    have S6 : Hid (Blk (((w5.setCell ⟨w.heap.size + 1, 1, none⟩ (.bool true)).setCell ⟨w.heap.size + 1, 3, none⟩ (.slice A' n' c')).setCell ⟨w.heap.size + 1, 4, none⟩ (.slice M' m' d')).drew w.heap.size 42 ZS) := Lib.hid ((((S5.out.far (p := ⟨w.heap.size + 1, 1, none⟩) (show w.heap.size ≠ w.heap.size + 1 by omega) _).far (p := ⟨w.heap.size + 1, 3, none⟩) (show w.heap.size ≠ w.heap.size + 1 by omega) _).far (p := ⟨w.heap.size + 1, 4, none⟩) (show w.heap.size ≠ w.heap.size + 1 by omega) _).drew)
    have T6 : Hid (Blk (((w5.setCell ⟨w.heap.size + 1, 1, none⟩ (.bool true)).setCell ⟨w.heap.size + 1, 3, none⟩ (.slice A' n' c')).setCell ⟨w.heap.size + 1, 4, none⟩ (.slice M' m' d')).drew (w.heap.size + 1) 42 #[.bool false, .bool true, .int .u64 0, .slice A' n' c', .slice M' m' d']) := Lib.hid ((((T5.out.set 1 (.bool true)).set 3 (.slice A' n' c')).set 4 (.slice M' m' d')).drew)
    have U6 : Hid (Upd (Fr2 g (some o)) w (((w5.setCell ⟨w.heap.size + 1, 1, none⟩ (.bool true)).setCell ⟨w.heap.size + 1, 3, none⟩ (.slice A' n' c')).setCell ⟨w.heap.size + 1, 4, none⟩ (.slice M' m' d')).drew) := Lib.hid ((((U5.out.set (p := ⟨w.heap.size + 1, 1, none⟩) (.inr (Nat.le_succ _)) _).set (p := ⟨w.heap.size + 1, 3, none⟩) (.inr (Nat.le_succ _)) _).set (p := ⟨w.heap.size + 1, 4, none⟩) (.inr (Nat.le_succ _)) _).drew)
    have A6 : Hid (Sl (((w5.setCell ⟨w.heap.size + 1, 1, none⟩ (.bool true)).setCell ⟨w.heap.size + 1, 3, none⟩ (.slice A' n' c')).setCell ⟨w.heap.size + 1, 4, none⟩ (.slice M' m' d')).drew A' n' c' (nums xs')) := Lib.hid ((((A5.out.far (p := ⟨w.heap.size + 1, 1, none⟩) (fun b k e h => (HAL3.out b k e).2.2.2 h) _).far (p := ⟨w.heap.size + 1, 3, none⟩) (fun b k e h => (HAL3.out b k e).2.2.2 h) _).far (p := ⟨w.heap.size + 1, 4, none⟩) (fun b k e h => (HAL3.out b k e).2.2.2 h) _).drew)
    have M6 : Hid (Sl (((w5.setCell ⟨w.heap.size + 1, 1, none⟩ (.bool true)).setCell ⟨w.heap.size + 1, 3, none⟩ (.slice A' n' c')).setCell ⟨w.heap.size + 1, 4, none⟩ (.slice M' m' d')).drew M' m' d' (prs ms')) := Lib.hid ((((M5.out.far (p := ⟨w.heap.size + 1, 1, none⟩) (fun b k e h => (HML3.out b k e).2.2.2 h) _).far (p := ⟨w.heap.size + 1, 3, none⟩) (fun b k e h => (HML3.out b k e).2.2.2 h) _).far (p := ⟨w.heap.size + 1, 4, none⟩) (fun b k e h => (HML3.out b k e).2.2.2 h) _).drew)
    clear z50 z52 q50 q51 tl tf t1 t3 t4 n1 n2 B5 O5 S5 T5 U5 A5 M5
    generalize (((w5.setCell ⟨w.heap.size + 1, 1, none⟩ (.bool true)).setCell ⟨w.heap.size + 1, 3, none⟩ (.slice A' n' c')).setCell ⟨w.heap.size + 1, 4, none⟩ (.slice M' m' d')).drew = w6 at *
    have z0 : w6.cell? ⟨g, 0, none⟩ = some (.pointer (some ⟨o, 0, none⟩)) := B6.out.cell 0
    have t0 : w6.cell? ⟨w.heap.size + 1, 0, none⟩ = some (.bool false) := T6.out.cell 0
    have t1 : w6.cell? ⟨w.heap.size + 1, 1, none⟩ = some (.bool true) := T6.out.cell 1
    have t2 : w6.cell? ⟨w.heap.size + 1, 2, none⟩ = some (.int .u64 0) := T6.out.cell 2
    have t3 : w6.cell? ⟨w.heap.size + 1, 3, none⟩ = some (.slice A' n' c') := T6.out.cell 3
    have t4 : w6.cell? ⟨w.heap.size + 1, 4, none⟩ = some (.slice M' m' d') := T6.out.cell 4
    have s0 : w6.cell? ⟨w.heap.size, 0, none⟩ = some (.bool false) := S6.out.cell 0
    have s1 : w6.cell? ⟨w.heap.size, 1, none⟩ = some (.bool false) := S6.out.cell 1
    have s2 : w6.cell? ⟨w.heap.size, 2, none⟩ = some (.int .u64 0) := S6.out.cell 2
    have s3 : w6.cell? ⟨w.heap.size, 3, none⟩ = some (.slice none 0 0) := S6.out.cell 3
    have s4 : w6.cell? ⟨w.heap.size, 4, none⟩ = some (.slice none 0 0) := S6.out.cell 4
    have sl := S6.out.lt
    have sf := S6.out.frz
    have zl := B6.out.lt
    have zf := B6.out.frz
    have tl := T6.out.lt
    go_wp2
    have SF : Hid (Blk (W5 (w6.setCell ⟨g, 0, none⟩ (.pointer none)) w.heap.size (.bool false) (.bool true) (.int .u64 0) (.slice A' n' c') (.slice M' m' d')) w.heap.size 42 #[.bool false, .bool true, .int .u64 0, .slice A' n' c', .slice M' m' d']) := Lib.hid (Blk.w5 (.bool false) (.bool true) (.int .u64 0) (.slice A' n' c') (.slice M' m' d') (S6.out.far (p := ⟨g, 0, none⟩) (show w.heap.size ≠ g by omega) (.pointer none)))
    have BF : Hid (Blk (W5 (w6.setCell ⟨g, 0, none⟩ (.pointer none)) w.heap.size (.bool false) (.bool true) (.int .u64 0) (.slice A' n' c') (.slice M' m' d')) g 69 #[.pointer none, .int .u64 win, .int .i64 most]) := Lib.hid (Blk.w5f (.bool false) (.bool true) (.int .u64 0) (.slice A' n' c') (.slice M' m' d') (B6.out.set 0 (.pointer none)) (show g ≠ w.heap.size by omega))
    have UF : Hid (Upd (Fr2 g (some o)) w (W5 (w6.setCell ⟨g, 0, none⟩ (.pointer none)) w.heap.size (.bool false) (.bool true) (.int .u64 0) (.slice A' n' c') (.slice M' m' d'))) := Lib.hid (Upd.w5 (.bool false) (.bool true) (.int .u64 0) (.slice A' n' c') (.slice M' m' d') (U6.out.set (p := ⟨g, 0, none⟩) (.inl (.inl rfl)) (.pointer none)) (.inr (Nat.le_refl _)))
    have AF : Hid (Sl (W5 (w6.setCell ⟨g, 0, none⟩ (.pointer none)) w.heap.size (.bool false) (.bool true) (.int .u64 0) (.slice A' n' c') (.slice M' m' d')) A' n' c' (nums xs')) := Lib.hid (Sl.w5 (.bool false) (.bool true) (.int .u64 0) (.slice A' n' c') (.slice M' m' d') (A6.out.far (p := ⟨g, 0, none⟩) (fun b k e h => (HAL3.out b k e).1 h) (.pointer none)) (fun b k e => (HAL3.out b k e).2.2.1))
    have MF : Hid (Sl (W5 (w6.setCell ⟨g, 0, none⟩ (.pointer none)) w.heap.size (.bool false) (.bool true) (.int .u64 0) (.slice A' n' c') (.slice M' m' d')) M' m' d' (prs ms')) := Lib.hid (Sl.w5 (.bool false) (.bool true) (.int .u64 0) (.slice A' n' c') (.slice M' m' d') (M6.out.far (p := ⟨g, 0, none⟩) (fun b k e h => (HML3.out b k e).1 h) (.pointer none)) (fun b k e => (HML3.out b k e).2.2.1))
    have lF := SF.out.lt
    have c0 : (W5 (w6.setCell ⟨g, 0, none⟩ (.pointer none)) w.heap.size (.bool false) (.bool true) (.int .u64 0) (.slice A' n' c') (.slice M' m' d')).cell? ⟨w.heap.size, 0, none⟩ = some (.bool false) := SF.out.cell 0
    have c1 : (W5 (w6.setCell ⟨g, 0, none⟩ (.pointer none)) w.heap.size (.bool false) (.bool true) (.int .u64 0) (.slice A' n' c') (.slice M' m' d')).cell? ⟨w.heap.size, 1, none⟩ = some (.bool true) := SF.out.cell 1
    have c2 : (W5 (w6.setCell ⟨g, 0, none⟩ (.pointer none)) w.heap.size (.bool false) (.bool true) (.int .u64 0) (.slice A' n' c') (.slice M' m' d')).cell? ⟨w.heap.size, 2, none⟩ = some (.int .u64 0) := SF.out.cell 2
    have c3 : (W5 (w6.setCell ⟨g, 0, none⟩ (.pointer none)) w.heap.size (.bool false) (.bool true) (.int .u64 0) (.slice A' n' c') (.slice M' m' d')).cell? ⟨w.heap.size, 3, none⟩ = some (.slice A' n' c') := SF.out.cell 3
    have c4 : (W5 (w6.setCell ⟨g, 0, none⟩ (.pointer none)) w.heap.size (.bool false) (.bool true) (.int .u64 0) (.slice A' n' c') (.slice M' m' d')).cell? ⟨w.heap.size, 4, none⟩ = some (.slice M' m' d') := SF.out.cell 4
    clear s0 s1 s2 s3 s4 t0 t1 t2 t3 t4 z0 sl sf zl zf tl
    refine bodyPost_ret (v := .agg #[.bool false, .bool true, .int .u64 0, .slice A' n' c', .slice M' m' d']) (by simp [results, Try.results13, go_sem, c0, c1, c2, c3, c4, lF]) rfl ⟨A', c', M', d', rfl, BF.out, AF.out, MF.out, NA4.out, NM4.out, UF.out⟩
set_option maxRecDepth 100000 in
set_option maxHeartbeats 4000000 in
theorem cadd_old_more {g o n m n' m' c d : Nat} {A M : Option Addr} {win most now id arg e : Int} {xs xs' : List Int} {ms ms' : List (Int × Int)} {ok : Bool} (hm : ¬ most ≤ (n' : Int)) (hb : badd xs ms id arg most = (xs', ms', ok)) (hxn : xs.length = n) (hmn : ms.length = m) (hxn' : xs'.length = n') (hmn' : ms'.length = m') (hn1 : n ≤ 900) (hm1 : m ≤ 900) (w : World) (h : Blk w g 69 #[.pointer (some ⟨o, 0, none⟩), .int .u64 win, .int .i64 most]) (hO : Blk w o 72 #[.slice A n c, .slice M m d, .int .u64 e]) (ha : Sl w A n c (nums xs)) (hmm : Sl w M m d (prs ms)) (hag : ∀ b k, A = some ⟨b, k, none⟩ → b < w.heap.size ∧ b ≠ g ∧ b ≠ o) (hmg : ∀ b k, M = some ⟨b, k, none⟩ → b < w.heap.size ∧ b ≠ g ∧ b ≠ o) :
    Calls Try.prog 13 #[.pointer (some ⟨g, 0, none⟩), .int .u64 now, .int .i64 id, .int .i64 arg] w fun e_ w' => ∃ A' c' M' d', e_ = .returned (.agg #[.bool false, .bool false, .int .u64 0, .slice none 0 0, .slice none 0 0]) ∧ Blk w' g 69 #[.pointer (some ⟨o, 0, none⟩), .int .u64 win, .int .i64 most] ∧ Blk w' o 72 #[.slice A' n' c', .slice M' m' d', .int .u64 e] ∧ Sl w' A' n' c' (nums xs') ∧ Sl w' M' m' d' (prs ms') ∧ Nw w.heap.size A' A ∧ Nw w.heap.size M' M ∧ Upd (Fr2 g (some o)) w w' := by
  have HBB := Lib.hid hb
  have HXN := Lib.hid hxn
  have HMN := Lib.hid hmn
  have HXN' := Lib.hid hxn'
  have HMN' := Lib.hid hmn'
  have HAG := Lib.hid hag
  have HMG := Lib.hid hmg
  have hn2 : n' ≤ 901 := by
    have := badd_len1 xs ms id arg most
    rw [hb, hxn', hxn] at this
    omega
  have hgo : g ≠ o := Blk.ne h hO (by decide)
  have hlo := hO.lt
  have U0 : Hid (Upd (Fr2 g (some o)) w _) := Lib.hid (((Upd.refl (Fr2 g (some o)) w).alloc (.cells ZS 42)).alloc (.cells ZS 42))
  have B0 := Lib.hid ((h.alloc (.cells ZS 42)).alloc (.cells ZS 42))
  have O0 := Lib.hid ((hO.alloc (.cells ZS 42)).alloc (.cells ZS 42))
  have A0 := Lib.hid ((ha.alloc (.cells ZS 42)).alloc (.cells ZS 42))
  have M0 := Lib.hid ((hmm.alloc (.cells ZS 42)).alloc (.cells ZS 42))
  have S0 := Lib.hid ((Blk.new w ZS 42).alloc (.cells ZS 42))
  have T0 := Lib.hid (Blk.new1 w (.cells ZS 42) ZS 42)
  have hlt := h.lt
  have x0 : ((w.alloc (.cells ZS 42)).alloc (.cells ZS 42)).cell? ⟨g, 0, none⟩ = some (.pointer (some ⟨o, 0, none⟩)) := B0.out.cell 0
  clear h hb hxn hmn hxn' hmn' hO ha hmm hag hmg
  go_enter Try.func13, Try.ntmps13
  go_wp2_with fail
  refine (open_some _ B0.out).mono ?_
  rintro e1 w1 ⟨rfl, rfl⟩
  clear x0
  go_wp2_with fail
  refine Code.gen (fun W => Blk W g 69 #[.pointer (some ⟨o, 0, none⟩), .int .u64 win, .int .i64 most] ∧ Blk W w.heap.size 42 ZS ∧ Blk W (w.heap.size + 1) 42 ZS ∧ Upd (Fr2 g (some o)) w W ∧ Blk W o 72 #[.slice A n c, .slice M m d, .int .u64 e] ∧ Sl W A n c (nums xs) ∧ Sl W M m d (prs ms)) ⟨B0.out, S0.out, T0.out, U0.out, O0.out, A0.out, M0.out⟩ ?_
  rintro w1 ⟨qB, qS, qT, qU, qO, qA, qM⟩
  have B1 := Lib.hid qB
  have S1 := Lib.hid qS
  have T1 := Lib.hid qT
  have U1 := Lib.hid qU
  have O1 := Lib.hid qO
  have A1 := Lib.hid qA
  have M1 := Lib.hid qM
  clear qB qS qT qU qO qA qM
  clear B0 S0 T0 U0 O0 A0 M0
  have l1 := T1.out.lt
  have x0 : w1.cell? ⟨g, 0, none⟩ = some (.pointer (some ⟨o, 0, none⟩)) := B1.out.cell 0
  have x2 : w1.cell? ⟨g, 2, none⟩ = some (.int .i64 most) := B1.out.cell 2
  have q0 : w1.cell? ⟨o, 0, none⟩ = some (.slice A n c) := O1.out.cell 0
  have q1 : w1.cell? ⟨o, 1, none⟩ = some (.slice M m d) := O1.out.cell 1
  have xl := O1.out.lt
  have xf := O1.out.frz
  refine wp_region_invG 23 (by kernel_rfl) (by kernel_rfl) (At o) (fun (l_ : Bool) (j_ : Nat) (v_ : Value) (w_ : World) => (match l_, j_ with | _, 0 => v_ = .pointer (some ⟨g, 0, none⟩) | _, 1 => v_ = .pointer (some ⟨g, 0, none⟩) | _, 2 => v_ = .pointer (some ⟨g, 0, none⟩) | _, 3 => v_ = .pointer (some ⟨o, 0, none⟩) | _, 4 => v_ = .pointer (some ⟨g, 0, none⟩) | _, 5 => v_ = .pointer (some ⟨g, 0, none⟩) | _, 6 => v_ = .pointer (some ⟨g, 0, none⟩) | _, 7 => v_ = .pointer (some ⟨o, 0, none⟩) | _, 8 => v_ = .pointer (some ⟨o, 0, none⟩) | _, 9 => v_ = .pointer (some ⟨o, 0, none⟩) | _, 10 => v_ = .agg #[.slice A n c, .slice M m d] | _, 11 => v_ = .int .i64 id | _, 12 => v_ = .int .i64 arg | _, 13 => v_ = .pointer (some ⟨g, 0, none⟩) | _, 14 => v_ = .pointer (some ⟨g, 0, none⟩) | _, 15 => v_ = .pointer (some ⟨g, 2, none⟩) | _, 16 => v_ = .int .i64 most | false, 17 => ∃ A' c' M' d', v_ = .tuple #[.agg #[.slice A' n' c', .slice M' m' d'], .bool ok] ∧ Sl w_ A' n' c' (nums xs') ∧ Sl w_ M' m' d' (prs ms') ∧ Nw w1.heap.size A' A ∧ Nw w1.heap.size M' M | true, 17 => True | false, 18 => ∃ A' c' M' d', v_ = .tuple #[.agg #[.slice A' n' c', .slice M' m' d'], .bool ok] ∧ Sl w_ A' n' c' (nums xs') ∧ Sl w_ M' m' d' (prs ms') ∧ Nw w1.heap.size A' A ∧ Nw w1.heap.size M' M | true, 18 => ∃ A' c' M' d', v_ = .tuple #[.agg #[.slice A' n' c', .slice M' m' d'], .bool ok] | false, 19 => ∃ A' c' M' d', v_ = .agg #[.slice A' n' c', .slice M' m' d'] ∧ Sl w_ A' n' c' (nums xs') ∧ Sl w_ M' m' d' (prs ms') ∧ Nw w1.heap.size A' A ∧ Nw w1.heap.size M' M | true, 19 => ∃ A' c' M' d', v_ = .agg #[.slice A' n' c', .slice M' m' d'] ∧ Sl w_ A' n' c' (nums xs') ∧ Sl w_ M' m' d' (prs ms') ∧ Nw w1.heap.size A' A ∧ Nw w1.heap.size M' M ∧ Blk w_ o 72 #[.slice A' n' c', .slice M' m' d', .int .u64 e] | false, 20 => v_ = .bool ok | true, 20 => v_ = .bool ok | _, 21 => v_ = .pointer (some ⟨o, 0, none⟩) | _, 22 => v_ = .pointer (some ⟨o, 0, none⟩) | _, _ => True : Prop)) ?_ ?_ ?_ ?_
  · intro lm j v_ w1_ w2_ h hu
    rcases j with _ | _ | _ | _ | _ | _ | _ | _ | _ | _ | _ | _ | _ | _ | _ | _ | _ | _ | _ | _ | _ | _ | _ | _ | j
    · exact h
    · exact h
    · exact h
    · exact h
    · exact h
    · exact h
    · exact h
    · exact h
    · exact h
    · exact h
    · exact h
    · exact h
    · exact h
    · exact h
    · exact h
    · exact h
    · exact h
    · cases lm
      · skip
        obtain ⟨A', c', M', d', h1, h2, h3, h4, h5⟩ := h
        exact ⟨A', c', M', d', h1, h2.upd0 hu, h3.upd0 hu, h4, h5⟩
      · skip
        trivial
    · cases lm
      · skip
        obtain ⟨A', c', M', d', h1, h2, h3, h4, h5⟩ := h
        exact ⟨A', c', M', d', h1, h2.upd0 hu, h3.upd0 hu, h4, h5⟩
      · skip
        exact h
    · cases lm
      · skip
        obtain ⟨A', c', M', d', h1, h2, h3, h4, h5⟩ := h
        exact ⟨A', c', M', d', h1, h2.upd0 hu, h3.upd0 hu, h4, h5⟩
      · skip
        obtain ⟨A', c', M', d', h1, h2, h3, h4, h5, h6⟩ := h
        exact ⟨A', c', M', d', h1, h2.upd0 hu, h3.upd0 hu, h4, h5, h6.upd hu (fun h => h)⟩
    · cases lm
      · skip
        exact h
      · skip
        exact h
    · exact h
    · exact h
    · trivial
    · trivial
  · intro j o_ kd_ ho hne hkd_ a w' lm hF hM hD hX
    have hjn : j < 24 := by
      have := (Array.getElem?_eq_some_iff.1 ho).1
      simp at this
      omega
    rcases j with _ | _ | _ | _ | _ | _ | _ | _ | _ | _ | _ | _ | _ | _ | _ | _ | _ | _ | _ | _ | _ | _ | _ | _ | j
    all_goals (try (exfalso; omega))
    all_goals simp at ho
    all_goals subst ho
    all_goals simp at hkd_
    all_goals (try subst hkd_)
    · skip
      have elm : lm = false := by
        cases lm
        · rfl
        · exact absurd rfl (hM rfl _ rfl ⟨0, .phase⟩ (by simp) rfl).1
      subst elm
      have s0_ : a.tmps.getD 0 undef = .pointer (some ⟨g, 0, none⟩) := hF.keep 0 (by kernel_rfl)
      have s2_ : a.tmps.getD 2 undef = .int .i64 id := hF.keep 2 (by kernel_rfl)
      have s3_ : a.tmps.getD 3 undef = .int .i64 arg := hF.keep 3 (by kernel_rfl)
      clear hD
      unfold Oper.wp
      go_simp
      first | exact ⟨_, rfl, Upd.refl _ _, rfl⟩ | exact Upd.refl _ _
    · skip
      have elm : lm = false := by
        cases lm
        · rfl
        · exact absurd rfl (hM rfl _ rfl ⟨1, .phase⟩ (by simp) rfl).1
      subst elm
      have f0_ : a.tmps.getD 41 undef = .pointer (some ⟨g, 0, none⟩) := hD ⟨0, .data⟩ (by simp) rfl _ _ rfl rfl
      clear hD
      unfold Oper.wp
      go_simp
      first | exact ⟨_, rfl, Upd.refl _ _, rfl⟩ | exact Upd.refl _ _
    · skip
      have elm : lm = false := by
        cases lm
        · rfl
        · exact absurd rfl (hM rfl _ rfl ⟨2, .phase⟩ (by simp) rfl).1
      subst elm
      have s0_ : a.tmps.getD 0 undef = .pointer (some ⟨g, 0, none⟩) := hF.keep 0 (by kernel_rfl)
      have s2_ : a.tmps.getD 2 undef = .int .i64 id := hF.keep 2 (by kernel_rfl)
      have s3_ : a.tmps.getD 3 undef = .int .i64 arg := hF.keep 3 (by kernel_rfl)
      have f1_ : a.tmps.getD 42 undef = .pointer (some ⟨g, 0, none⟩) := hD ⟨1, .data⟩ (by simp) rfl _ _ rfl rfl
      clear hD
      unfold Oper.wp
      go_simp
      first | exact ⟨_, rfl, Upd.refl _ _, rfl⟩ | exact Upd.refl _ _
    · skip
      have elm : lm = false := by
        cases lm
        · rfl
        · exact absurd rfl (hM rfl _ rfl ⟨3, .phase⟩ (by simp) rfl).1
      subst elm
      have hF0 := hF.upd0 rfl
      have hBg := (B1.out.drew).upd hF0 (fun h => h)
      have hBo := (O1.out.drew).upd hF0 (fun h => h)
      have x0_ : w'.cell? ⟨g, 0, none⟩ = some (.pointer (some ⟨o, 0, none⟩)) := hBg.cell 0
      have x2_ : w'.cell? ⟨g, 2, none⟩ = some (.int .i64 most) := hBg.cell 2
      have q0_ : w'.cell? ⟨o, 0, none⟩ = some (.slice A n c) := hBo.cell 0
      have q1_ : w'.cell? ⟨o, 1, none⟩ = some (.slice M m d) := hBo.cell 1
      have hbs : w1.heap.size ≤ w'.heap.size := hF0.size
      have gl_ := hBg.lt
      have ol_ := hBo.lt
      have of_ := hBo.frz
      have s0_ : a.tmps.getD 0 undef = .pointer (some ⟨g, 0, none⟩) := hF.keep 0 (by kernel_rfl)
      have s2_ : a.tmps.getD 2 undef = .int .i64 id := hF.keep 2 (by kernel_rfl)
      have s3_ : a.tmps.getD 3 undef = .int .i64 arg := hF.keep 3 (by kernel_rfl)
      have f2_ : a.tmps.getD 43 undef = .pointer (some ⟨g, 0, none⟩) := hD ⟨2, .data⟩ (by simp) rfl _ _ rfl rfl
      clear hD
      unfold Oper.wp
      go_simp
      first | exact ⟨_, rfl, Upd.refl _ _, rfl⟩ | exact Upd.refl _ _
    · skip
      have elm : lm = false := by
        cases lm
        · rfl
        · exact absurd rfl (hM rfl _ rfl ⟨4, .phase⟩ (by simp) rfl).1
      subst elm
      have s0_ : a.tmps.getD 0 undef = .pointer (some ⟨g, 0, none⟩) := hF.keep 0 (by kernel_rfl)
      have s2_ : a.tmps.getD 2 undef = .int .i64 id := hF.keep 2 (by kernel_rfl)
      have s3_ : a.tmps.getD 3 undef = .int .i64 arg := hF.keep 3 (by kernel_rfl)
      clear hD
      unfold Oper.wp
      go_simp
      first | exact ⟨_, rfl, Upd.refl _ _, rfl⟩ | exact Upd.refl _ _
    · skip
      have elm : lm = false := by
        cases lm
        · rfl
        · exact absurd rfl (hM rfl _ rfl ⟨5, .phase⟩ (by simp) rfl).1
      subst elm
      have f4_ : a.tmps.getD 45 undef = .pointer (some ⟨g, 0, none⟩) := hD ⟨4, .data⟩ (by simp) rfl _ _ rfl rfl
      clear hD
      unfold Oper.wp
      go_simp
      first | exact ⟨_, rfl, Upd.refl _ _, rfl⟩ | exact Upd.refl _ _
    · skip
      have elm : lm = false := by
        cases lm
        · rfl
        · exact absurd rfl (hM rfl _ rfl ⟨6, .phase⟩ (by simp) rfl).1
      subst elm
      have s0_ : a.tmps.getD 0 undef = .pointer (some ⟨g, 0, none⟩) := hF.keep 0 (by kernel_rfl)
      have s2_ : a.tmps.getD 2 undef = .int .i64 id := hF.keep 2 (by kernel_rfl)
      have s3_ : a.tmps.getD 3 undef = .int .i64 arg := hF.keep 3 (by kernel_rfl)
      have f5_ : a.tmps.getD 46 undef = .pointer (some ⟨g, 0, none⟩) := hD ⟨5, .data⟩ (by simp) rfl _ _ rfl rfl
      clear hD
      unfold Oper.wp
      go_simp
      first | exact ⟨_, rfl, Upd.refl _ _, rfl⟩ | exact Upd.refl _ _
    · skip
      have elm : lm = false := by
        cases lm
        · rfl
        · exact absurd rfl (hM rfl _ rfl ⟨7, .phase⟩ (by simp) rfl).1
      subst elm
      have hF0 := hF.upd0 rfl
      have hBg := (B1.out.drew).upd hF0 (fun h => h)
      have hBo := (O1.out.drew).upd hF0 (fun h => h)
      have x0_ : w'.cell? ⟨g, 0, none⟩ = some (.pointer (some ⟨o, 0, none⟩)) := hBg.cell 0
      have x2_ : w'.cell? ⟨g, 2, none⟩ = some (.int .i64 most) := hBg.cell 2
      have q0_ : w'.cell? ⟨o, 0, none⟩ = some (.slice A n c) := hBo.cell 0
      have q1_ : w'.cell? ⟨o, 1, none⟩ = some (.slice M m d) := hBo.cell 1
      have hbs : w1.heap.size ≤ w'.heap.size := hF0.size
      have gl_ := hBg.lt
      have ol_ := hBo.lt
      have of_ := hBo.frz
      have s0_ : a.tmps.getD 0 undef = .pointer (some ⟨g, 0, none⟩) := hF.keep 0 (by kernel_rfl)
      have s2_ : a.tmps.getD 2 undef = .int .i64 id := hF.keep 2 (by kernel_rfl)
      have s3_ : a.tmps.getD 3 undef = .int .i64 arg := hF.keep 3 (by kernel_rfl)
      have f6_ : a.tmps.getD 47 undef = .pointer (some ⟨g, 0, none⟩) := hD ⟨6, .data⟩ (by simp) rfl _ _ rfl rfl
      clear hD
      unfold Oper.wp
      go_simp
      first | exact ⟨_, rfl, Upd.refl _ _, rfl⟩ | exact Upd.refl _ _
    · skip
      have elm : lm = false := by
        cases lm
        · rfl
        · exact absurd rfl (hM rfl _ rfl ⟨8, .phase⟩ (by simp) rfl).1
      subst elm
      have f7_ : a.tmps.getD 48 undef = .pointer (some ⟨o, 0, none⟩) := hD ⟨7, .data⟩ (by simp) rfl _ _ rfl rfl
      clear hD
      unfold Oper.wp
      go_simp
      first | exact ⟨_, rfl, Upd.refl _ _, rfl⟩ | exact Upd.refl _ _
    · skip
      have elm : lm = false := by
        cases lm
        · rfl
        · exact absurd rfl (hM rfl _ rfl ⟨9, .phase⟩ (by simp) rfl).1
      subst elm
      have s0_ : a.tmps.getD 0 undef = .pointer (some ⟨g, 0, none⟩) := hF.keep 0 (by kernel_rfl)
      have s2_ : a.tmps.getD 2 undef = .int .i64 id := hF.keep 2 (by kernel_rfl)
      have s3_ : a.tmps.getD 3 undef = .int .i64 arg := hF.keep 3 (by kernel_rfl)
      have f8_ : a.tmps.getD 49 undef = .pointer (some ⟨o, 0, none⟩) := hD ⟨8, .data⟩ (by simp) rfl _ _ rfl rfl
      clear hD
      unfold Oper.wp
      go_simp
      first | exact ⟨_, rfl, Upd.refl _ _, rfl⟩ | exact Upd.refl _ _
    · skip
      have elm : lm = false := by
        cases lm
        · rfl
        · exact absurd rfl (hM rfl _ rfl ⟨10, .phase⟩ (by simp) rfl).1
      subst elm
      have hF0 := hF.upd0 rfl
      have hBg := (B1.out.drew).upd hF0 (fun h => h)
      have hBo := (O1.out.drew).upd hF0 (fun h => h)
      have x0_ : w'.cell? ⟨g, 0, none⟩ = some (.pointer (some ⟨o, 0, none⟩)) := hBg.cell 0
      have x2_ : w'.cell? ⟨g, 2, none⟩ = some (.int .i64 most) := hBg.cell 2
      have q0_ : w'.cell? ⟨o, 0, none⟩ = some (.slice A n c) := hBo.cell 0
      have q1_ : w'.cell? ⟨o, 1, none⟩ = some (.slice M m d) := hBo.cell 1
      have hbs : w1.heap.size ≤ w'.heap.size := hF0.size
      have gl_ := hBg.lt
      have ol_ := hBo.lt
      have of_ := hBo.frz
      have s0_ : a.tmps.getD 0 undef = .pointer (some ⟨g, 0, none⟩) := hF.keep 0 (by kernel_rfl)
      have s2_ : a.tmps.getD 2 undef = .int .i64 id := hF.keep 2 (by kernel_rfl)
      have s3_ : a.tmps.getD 3 undef = .int .i64 arg := hF.keep 3 (by kernel_rfl)
      have f9_ : a.tmps.getD 50 undef = .pointer (some ⟨o, 0, none⟩) := hD ⟨9, .data⟩ (by simp) rfl _ _ rfl rfl
      clear hD
      unfold Oper.wp
      go_simp
      first | exact ⟨_, rfl, Upd.refl _ _, rfl⟩ | exact Upd.refl _ _
    · skip
      have elm : lm = false := by
        cases lm
        · rfl
        · exact absurd rfl (hM rfl _ rfl ⟨11, .phase⟩ (by simp) rfl).1
      subst elm
      have s0_ : a.tmps.getD 0 undef = .pointer (some ⟨g, 0, none⟩) := hF.keep 0 (by kernel_rfl)
      have s2_ : a.tmps.getD 2 undef = .int .i64 id := hF.keep 2 (by kernel_rfl)
      have s3_ : a.tmps.getD 3 undef = .int .i64 arg := hF.keep 3 (by kernel_rfl)
      clear hD
      unfold Oper.wp
      go_simp
      first | exact ⟨_, rfl, Upd.refl _ _, rfl⟩ | exact Upd.refl _ _
    · skip
      have elm : lm = false := by
        cases lm
        · rfl
        · exact absurd rfl (hM rfl _ rfl ⟨12, .phase⟩ (by simp) rfl).1
      subst elm
      have s0_ : a.tmps.getD 0 undef = .pointer (some ⟨g, 0, none⟩) := hF.keep 0 (by kernel_rfl)
      have s2_ : a.tmps.getD 2 undef = .int .i64 id := hF.keep 2 (by kernel_rfl)
      have s3_ : a.tmps.getD 3 undef = .int .i64 arg := hF.keep 3 (by kernel_rfl)
      clear hD
      unfold Oper.wp
      go_simp
      first | exact ⟨_, rfl, Upd.refl _ _, rfl⟩ | exact Upd.refl _ _
    · skip
      have elm : lm = false := by
        cases lm
        · rfl
        · exact absurd rfl (hM rfl _ rfl ⟨13, .phase⟩ (by simp) rfl).1
      subst elm
      have s0_ : a.tmps.getD 0 undef = .pointer (some ⟨g, 0, none⟩) := hF.keep 0 (by kernel_rfl)
      have s2_ : a.tmps.getD 2 undef = .int .i64 id := hF.keep 2 (by kernel_rfl)
      have s3_ : a.tmps.getD 3 undef = .int .i64 arg := hF.keep 3 (by kernel_rfl)
      clear hD
      unfold Oper.wp
      go_simp
      first | exact ⟨_, rfl, Upd.refl _ _, rfl⟩ | exact Upd.refl _ _
    · skip
      have elm : lm = false := by
        cases lm
        · rfl
        · exact absurd rfl (hM rfl _ rfl ⟨14, .phase⟩ (by simp) rfl).1
      subst elm
      have f13_ : a.tmps.getD 54 undef = .pointer (some ⟨g, 0, none⟩) := hD ⟨13, .data⟩ (by simp) rfl _ _ rfl rfl
      clear hD
      unfold Oper.wp
      go_simp
      first | exact ⟨_, rfl, Upd.refl _ _, rfl⟩ | exact Upd.refl _ _
    · skip
      have elm : lm = false := by
        cases lm
        · rfl
        · exact absurd rfl (hM rfl _ rfl ⟨15, .phase⟩ (by simp) rfl).1
      subst elm
      have s0_ : a.tmps.getD 0 undef = .pointer (some ⟨g, 0, none⟩) := hF.keep 0 (by kernel_rfl)
      have s2_ : a.tmps.getD 2 undef = .int .i64 id := hF.keep 2 (by kernel_rfl)
      have s3_ : a.tmps.getD 3 undef = .int .i64 arg := hF.keep 3 (by kernel_rfl)
      have f14_ : a.tmps.getD 55 undef = .pointer (some ⟨g, 0, none⟩) := hD ⟨14, .data⟩ (by simp) rfl _ _ rfl rfl
      clear hD
      unfold Oper.wp
      go_simp
      first | exact ⟨_, rfl, Upd.refl _ _, rfl⟩ | exact Upd.refl _ _
    · skip
      have elm : lm = false := by
        cases lm
        · rfl
        · exact absurd rfl (hM rfl _ rfl ⟨16, .phase⟩ (by simp) rfl).1
      subst elm
      have hF0 := hF.upd0 rfl
      have hBg := (B1.out.drew).upd hF0 (fun h => h)
      have hBo := (O1.out.drew).upd hF0 (fun h => h)
      have x0_ : w'.cell? ⟨g, 0, none⟩ = some (.pointer (some ⟨o, 0, none⟩)) := hBg.cell 0
      have x2_ : w'.cell? ⟨g, 2, none⟩ = some (.int .i64 most) := hBg.cell 2
      have q0_ : w'.cell? ⟨o, 0, none⟩ = some (.slice A n c) := hBo.cell 0
      have q1_ : w'.cell? ⟨o, 1, none⟩ = some (.slice M m d) := hBo.cell 1
      have hbs : w1.heap.size ≤ w'.heap.size := hF0.size
      have gl_ := hBg.lt
      have ol_ := hBo.lt
      have of_ := hBo.frz
      have s0_ : a.tmps.getD 0 undef = .pointer (some ⟨g, 0, none⟩) := hF.keep 0 (by kernel_rfl)
      have s2_ : a.tmps.getD 2 undef = .int .i64 id := hF.keep 2 (by kernel_rfl)
      have s3_ : a.tmps.getD 3 undef = .int .i64 arg := hF.keep 3 (by kernel_rfl)
      have f15_ : a.tmps.getD 56 undef = .pointer (some ⟨g, 2, none⟩) := hD ⟨15, .data⟩ (by simp) rfl _ _ rfl rfl
      clear hD
      unfold Oper.wp
      go_simp
      first | exact ⟨_, rfl, Upd.refl _ _, rfl⟩ | exact Upd.refl _ _
    · skip
      have elm : lm = false := by
        cases lm
        · rfl
        · exact absurd rfl (hM rfl _ rfl ⟨17, .chain⟩ (by simp) rfl).1
      subst elm
      have hF0 := hF.upd0 rfl
      have hBg := (B1.out.drew).upd hF0 (fun h => h)
      have hBo := (O1.out.drew).upd hF0 (fun h => h)
      have x0_ : w'.cell? ⟨g, 0, none⟩ = some (.pointer (some ⟨o, 0, none⟩)) := hBg.cell 0
      have x2_ : w'.cell? ⟨g, 2, none⟩ = some (.int .i64 most) := hBg.cell 2
      have q0_ : w'.cell? ⟨o, 0, none⟩ = some (.slice A n c) := hBo.cell 0
      have q1_ : w'.cell? ⟨o, 1, none⟩ = some (.slice M m d) := hBo.cell 1
      have hbs : w1.heap.size ≤ w'.heap.size := hF0.size
      have gl_ := hBg.lt
      have ol_ := hBo.lt
      have of_ := hBo.frz
      have s0_ : a.tmps.getD 0 undef = .pointer (some ⟨g, 0, none⟩) := hF.keep 0 (by kernel_rfl)
      have s2_ : a.tmps.getD 2 undef = .int .i64 id := hF.keep 2 (by kernel_rfl)
      have s3_ : a.tmps.getD 3 undef = .int .i64 arg := hF.keep 3 (by kernel_rfl)
      have f10_ : a.tmps.getD 51 undef = .agg #[.slice A n c, .slice M m d] := hD ⟨10, .data⟩ (by simp) rfl _ _ rfl rfl
      have f11_ : a.tmps.getD 52 undef = .int .i64 id := hD ⟨11, .data⟩ (by simp) rfl _ _ rfl rfl
      have f12_ : a.tmps.getD 53 undef = .int .i64 arg := hD ⟨12, .data⟩ (by simp) rfl _ _ rfl rfl
      have f16_ : a.tmps.getD 57 undef = .int .i64 most := hD ⟨16, .data⟩ (by simp) rfl _ _ rfl rfl
      have HAL := Lib.hid (A1.out.drew.upd0 hF0)
      have HML := Lib.hid (M1.out.drew.upd0 hF0)
      have HBS := Lib.hid hbs
      clear hD
      unfold Oper.wp
      go_simp
      refine (add_to HBB.out HXN.out HMN.out HXN'.out HMN'.out (by omega) (by omega) _ HAL.out HML.out).mono ?_
      rintro e' w2_ ⟨A', c', M', d', rfl, ha, hb, hna, hnm, hd⟩
      exact ⟨_, rfl, Upd.of_below hd _, ⟨A', c', M', d', rfl, ha, hb, hna.mono HBS.out, hnm.mono HBS.out⟩⟩
    · skip
      have elm : lm = false := by
        cases lm
        · rfl
        · exact absurd rfl (hM rfl _ rfl ⟨18, .phase⟩ (by simp) rfl).1
      subst elm
      have s0_ : a.tmps.getD 0 undef = .pointer (some ⟨g, 0, none⟩) := hF.keep 0 (by kernel_rfl)
      have s2_ : a.tmps.getD 2 undef = .int .i64 id := hF.keep 2 (by kernel_rfl)
      have s3_ : a.tmps.getD 3 undef = .int .i64 arg := hF.keep 3 (by kernel_rfl)
      have f17_ : (fun (v_ : Value) (w_ : World) => ∃ A' c' M' d', v_ = .tuple #[.agg #[.slice A' n' c', .slice M' m' d'], .bool ok] ∧ Sl w_ A' n' c' (nums xs') ∧ Sl w_ M' m' d' (prs ms') ∧ Nw w1.heap.size A' A ∧ Nw w1.heap.size M' M) (a.tmps.getD 58 undef) w' := hD ⟨17, .data⟩ (by simp) rfl _ _ rfl rfl
      obtain ⟨A', c', M', d', h1_, hfs⟩ := f17_
      clear hD
      unfold Oper.wp
      go_simp
      exact ⟨_, rfl, Upd.refl _ _, ⟨A', c', M', d', rfl, hfs⟩⟩
    · skip
      have elm : lm = false := by
        cases lm
        · rfl
        · exact absurd rfl (hM rfl _ rfl ⟨19, .data⟩ (by simp) rfl).1
      subst elm
      have f18_ : (fun (v_ : Value) (w_ : World) => ∃ A' c' M' d', v_ = .tuple #[.agg #[.slice A' n' c', .slice M' m' d'], .bool ok] ∧ Sl w_ A' n' c' (nums xs') ∧ Sl w_ M' m' d' (prs ms') ∧ Nw w1.heap.size A' A ∧ Nw w1.heap.size M' M) (a.tmps.getD 40 undef) w' := hD ⟨18, .data⟩ (by simp) rfl _ _ rfl rfl
      obtain ⟨A', c', M', d', h1_, hfs⟩ := f18_
      clear hD
      unfold Oper.wp
      go_simp
      exact ⟨_, rfl, Upd.refl _ _, ⟨A', c', M', d', rfl, hfs⟩⟩
    · skip
      cases lm
      · skip
        have f18_ : (fun (v_ : Value) (w_ : World) => ∃ A' c' M' d', v_ = .tuple #[.agg #[.slice A' n' c', .slice M' m' d'], .bool ok] ∧ Sl w_ A' n' c' (nums xs') ∧ Sl w_ M' m' d' (prs ms') ∧ Nw w1.heap.size A' A ∧ Nw w1.heap.size M' M) (a.tmps.getD 40 undef) w' := hD ⟨18, .data⟩ (by simp) rfl _ _ rfl rfl
        obtain ⟨A', c', M', d', h1_, hfs⟩ := f18_
        clear hD
        unfold Oper.wp
        go_simp
        first | exact ⟨_, rfl, Upd.refl _ _, rfl⟩ | exact Upd.refl _ _
      · skip
        have f18_ : (fun (v_ : Value) (w_ : World) => ∃ A' c' M' d', v_ = .tuple #[.agg #[.slice A' n' c', .slice M' m' d'], .bool ok]) (a.tmps.getD 40 undef) w' := hD ⟨18, .data⟩ (by simp) rfl _ _ rfl rfl
        obtain ⟨A', c', M', d', h1_⟩ := f18_
        clear hD
        unfold Oper.wp
        go_simp
        first | exact ⟨_, rfl, Upd.refl _ _, rfl⟩ | exact Upd.refl _ _
    · skip
      have elm : lm = false := by
        cases lm
        · rfl
        · exact absurd rfl ((hM rfl _ rfl ⟨22, .data⟩ (by simp) rfl).2 _ rfl ⟨21, .data⟩ (by simp) rfl)
      subst elm
      have f3_ : a.tmps.getD 44 undef = .pointer (some ⟨o, 0, none⟩) := hD ⟨3, .data⟩ (by simp) rfl _ _ rfl rfl
      clear hD
      unfold Oper.wp
      go_simp
      first | exact ⟨_, rfl, Upd.refl _ _, rfl⟩ | exact Upd.refl _ _
    · skip
      have elm : lm = false := by
        cases lm
        · rfl
        · exact absurd rfl (hM rfl _ rfl ⟨22, .data⟩ (by simp) rfl).1
      subst elm
      have s0_ : a.tmps.getD 0 undef = .pointer (some ⟨g, 0, none⟩) := hF.keep 0 (by kernel_rfl)
      have s2_ : a.tmps.getD 2 undef = .int .i64 id := hF.keep 2 (by kernel_rfl)
      have s3_ : a.tmps.getD 3 undef = .int .i64 arg := hF.keep 3 (by kernel_rfl)
      have f21_ : a.tmps.getD 61 undef = .pointer (some ⟨o, 0, none⟩) := hD ⟨21, .data⟩ (by simp) rfl _ _ rfl rfl
      clear hD
      unfold Oper.wp
      go_simp
      first | exact ⟨_, rfl, Upd.refl _ _, rfl⟩ | exact Upd.refl _ _
  · intro o_ ho a w' hF hD
    have hF0 := hF.upd0 rfl
    simp at ho
    subst ho
    have f22_ : a.tmps.getD 62 undef = .pointer (some ⟨o, 0, none⟩) := hD ⟨22, .data⟩ (by simp) rfl _ _ rfl rfl
    have f19_ : (fun (v_ : Value) (w_ : World) => ∃ A' c' M' d', v_ = .agg #[.slice A' n' c', .slice M' m' d'] ∧ Sl w_ A' n' c' (nums xs') ∧ Sl w_ M' m' d' (prs ms') ∧ Nw w1.heap.size A' A ∧ Nw w1.heap.size M' M) (a.tmps.getD 59 undef) w' := hD ⟨19, .data⟩ (by simp) rfl _ _ rfl rfl
    have hBg := (B1.out.drew).upd hF0 (fun h => h)
    have hBo := (O1.out.drew).upd hF0 (fun h => h)
    have x0_ : w'.cell? ⟨g, 0, none⟩ = some (.pointer (some ⟨o, 0, none⟩)) := hBg.cell 0
    have x2_ : w'.cell? ⟨g, 2, none⟩ = some (.int .i64 most) := hBg.cell 2
    have q0_ : w'.cell? ⟨o, 0, none⟩ = some (.slice A n c) := hBo.cell 0
    have q1_ : w'.cell? ⟨o, 1, none⟩ = some (.slice M m d) := hBo.cell 1
    have hbs : w1.heap.size ≤ w'.heap.size := hF0.size
    have gl_ := hBg.lt
    have ol_ := hBo.lt
    have of_ := hBo.frz
    clear hD
    obtain ⟨A', c', M', d', h1_, hfa, hfm, hna, hnm⟩ := f19_
    have EQ := Lib.hid h1_
    have sA : ∀ b k, A' = some ⟨b, k, none⟩ → b ≠ o := (fun b k e => by
    rcases hna b k e with h | h
    · subst h
      exact (HAG.out b k e).2.2
    · have h3 : w1.heap.size ≤ b := h
      omega)
    have sM : ∀ b k, M' = some ⟨b, k, none⟩ → b ≠ o := (fun b k e => by
    rcases hnm b k e with h | h
    · subst h
      exact (HMG.out b k e).2.2
    · have h3 : w1.heap.size ≤ b := h
      omega)
    have HA_ : Hid (Sl ((w'.setCell ⟨o, 0, none⟩ (.slice A' n' c')).setCell ⟨o, 1, none⟩ (.slice M' m' d')) A' n' c' (nums xs')) := Lib.hid ((hfa.far (p := ⟨o, 0, none⟩) sA _).far (p := ⟨o, 1, none⟩) sA _)
    have HM_ : Hid (Sl ((w'.setCell ⟨o, 0, none⟩ (.slice A' n' c')).setCell ⟨o, 1, none⟩ (.slice M' m' d')) M' m' d' (prs ms')) := Lib.hid ((hfm.far (p := ⟨o, 0, none⟩) sM _).far (p := ⟨o, 1, none⟩) sM _)
    have HO_ : Hid (Blk ((w'.setCell ⟨o, 0, none⟩ (.slice A' n' c')).setCell ⟨o, 1, none⟩ (.slice M' m' d')) o 72 #[.slice A' n' c', .slice M' m' d', .int .u64 e]) := Lib.hid ((hBo.set 0 (.slice A' n' c')).set 1 (.slice M' m' d'))
    have HU_ : Hid (Upd (At o) w1.drew ((w'.setCell ⟨o, 0, none⟩ (.slice A' n' c')).setCell ⟨o, 1, none⟩ (.slice M' m' d'))) := Lib.hid (((hF.upd.put 0 (.slice A' n' c')).put 1 (.slice M' m' d')))
    have h1_' : a.tmps[59]?.getD undef = .agg #[.slice A' n' c', .slice M' m' d'] := by rw [← Array.getD_eq_getD_getElem?]; exact h1_
    clear hfa hfm hna hnm sA sM hF hF0 hBg
    unfold Oper.wp
    go_simp
    refine ⟨HU_.out, ?_⟩
    intro j o' k hj hk h
    have hjn : j < 24 := by
      have := (List.getElem?_eq_some_iff.1 hj).1
      simp at this
      omega
    rcases j with _ | _ | _ | _ | _ | _ | _ | _ | _ | _ | _ | _ | _ | _ | _ | _ | _ | _ | _ | _ | _ | _ | _ | _ | j
    all_goals (try (exfalso; omega))
    all_goals simp at hj
    all_goals subst hj
    all_goals simp at hk
    all_goals (try subst hk)
    · exact h
    · exact h
    · exact h
    · exact h
    · exact h
    · exact h
    · exact h
    · exact h
    · exact h
    · exact h
    · exact h
    · exact h
    · exact h
    · exact h
    · exact h
    · exact h
    · exact h
    · skip
      trivial
    · skip
      obtain ⟨A', c', M', d', h1, _⟩ := h
      exact ⟨A', c', M', d', h1⟩
    · skip
      obtain ⟨A9, c9, M9, d9, h1, hfa, hfm, hna, hnm⟩ := h
      rw [← Array.getD_eq_getD_getElem?] at h1
      have e9 := EQ.out.symm.trans h1
      simp only [Value.agg.injEq, List.toArray, Array.mk.injEq, List.cons.injEq, Value.slice.injEq, and_true, true_and] at e9
      obtain ⟨⟨rfl, rfl⟩, rfl, rfl⟩ := e9
      exact ⟨_, _, _, _, (by rw [← Array.getD_eq_getD_getElem?]; exact h1), HA_.out, HM_.out, hna, hnm, HO_.out⟩
    · skip
      exact h
    · exact h
    · exact h
  · intro a w' hF hD
    have f19_ : (fun (v_ : Value) (w_ : World) => ∃ A' c' M' d', v_ = .agg #[.slice A' n' c', .slice M' m' d'] ∧ Sl w_ A' n' c' (nums xs') ∧ Sl w_ M' m' d' (prs ms') ∧ Nw w1.heap.size A' A ∧ Nw w1.heap.size M' M ∧ Blk w_ o 72 #[.slice A' n' c', .slice M' m' d', .int .u64 e]) (a.tmps.getD 59 undef) w' := hD 19 _ _ rfl rfl
    obtain ⟨A', c', M', d', g19_, hfa, hfm, hna, hnm, hob⟩ := f19_
    have B4 := Lib.hid ((B1.out.drew).upd hF.upd hgo)
    have O4 := Lib.hid hob
    have S4 := Lib.hid ((S1.out.drew).upd hF.upd (show w.heap.size ≠ o by omega))
    have T4 := Lib.hid ((T1.out.drew).upd hF.upd (show w.heap.size + 1 ≠ o by omega))
    have U4 := Lib.hid ((U1.out.drew).trans hF.upd (fun k hk => .inl (.inr (congrArg some (show k = o from hk).symm))))
    have A4 := Lib.hid hfa
    have M4 := Lib.hid hfm
    have HNA := Lib.hid hna
    have HNM := Lib.hid hnm
    clear hfa hfm hna hnm hob
    have HF_ := Lib.hid hF
    clear hF hD
    rw [HF_.out.act [false, false, false, false, false, false, false, false, false, false, false, false, false, false, false, false, false, false, false, false, false, false, false, false, false, false, false, false, false, false, false, false, false, false, false, false, false, false, false, false, true, true, true, true, true, true, true, true, true, true, true, true, true, true, true, true, true, true, true, true, true, true, true, false, false, false, false, false, false, false, false, false, false, false, false, false, false, false, false, false, false, false, false, false, false, false, false, false] (by kernel_rfl)]
    simp only [pickv, Nat.reduceAdd, Nat.zero_add]
    clear HF_ g19_
    generalize a.tmps.getD 40 undef = u40_
    generalize a.tmps.getD 41 undef = u41_
    generalize a.tmps.getD 42 undef = u42_
    generalize a.tmps.getD 43 undef = u43_
    generalize a.tmps.getD 44 undef = u44_
    generalize a.tmps.getD 45 undef = u45_
    generalize a.tmps.getD 46 undef = u46_
    generalize a.tmps.getD 47 undef = u47_
    generalize a.tmps.getD 48 undef = u48_
    generalize a.tmps.getD 49 undef = u49_
    generalize a.tmps.getD 50 undef = u50_
    generalize a.tmps.getD 51 undef = u51_
    generalize a.tmps.getD 52 undef = u52_
    generalize a.tmps.getD 53 undef = u53_
    generalize a.tmps.getD 54 undef = u54_
    generalize a.tmps.getD 55 undef = u55_
    generalize a.tmps.getD 56 undef = u56_
    generalize a.tmps.getD 57 undef = u57_
    generalize a.tmps.getD 58 undef = u58_
    generalize a.tmps.getD 59 undef = u59_
    generalize a.tmps.getD 60 undef = u60_
    generalize a.tmps.getD 61 undef = u61_
    generalize a.tmps.getD 62 undef = u62_
    generalize w' = w4 at *
    have HAL3 : Hid (∀ b k, A' = some ⟨b, k, none⟩ → b ≠ g ∧ b ≠ o ∧ b ≠ w.heap.size ∧ b ≠ w.heap.size + 1) := Lib.hid (fun b k e => by
      rcases HNA.out b k e with h | h
      · subst h
        obtain ⟨h1, h2, h3⟩ := HAG.out b k e
        exact ⟨h2, h3, by omega, by omega⟩
      · have h3 : w1.heap.size ≤ b := h
        have : g < w1.heap.size := by omega
        refine ⟨?_, ?_, ?_, ?_⟩ <;> omega)
    have HML3 : Hid (∀ b k, M' = some ⟨b, k, none⟩ → b ≠ g ∧ b ≠ o ∧ b ≠ w.heap.size ∧ b ≠ w.heap.size + 1) := Lib.hid (fun b k e => by
      rcases HNM.out b k e with h | h
      · subst h
        obtain ⟨h1, h2, h3⟩ := HMG.out b k e
        exact ⟨h2, h3, by omega, by omega⟩
      · have h3 : w1.heap.size ≤ b := h
        have : g < w1.heap.size := by omega
        refine ⟨?_, ?_, ?_, ?_⟩ <;> omega)
    have NA4 : Hid (Nw w.heap.size A' A) := Lib.hid (HNA.out.mono (show w.heap.size ≤ w1.heap.size by omega))
    have NM4 : Hid (Nw w.heap.size M' M) := Lib.hid (HNM.out.mono (show w.heap.size ≤ w1.heap.size by omega))
    clear x0 x2 q0 q1 xl xf HNA HNM B1 O1 S1 T1 U1 A1 M1
    have z0 : w4.cell? ⟨g, 0, none⟩ = some (.pointer (some ⟨o, 0, none⟩)) := B4.out.cell 0
    have z2 : w4.cell? ⟨g, 2, none⟩ = some (.int .i64 most) := B4.out.cell 2
    have q0 : w4.cell? ⟨o, 0, none⟩ = some (.slice A' n' c') := O4.out.cell 0
    have q1 : w4.cell? ⟨o, 1, none⟩ = some (.slice M' m' d') := O4.out.cell 1
    have hf : decide ((n' : Int) ≥ most) = false := by simpa using hm
    have HF := Lib.hid hf
    clear hf
    go_wp2_with fail
    go_region_held3 (fun w' => w'.cell? ⟨g, 0, none⟩ = some (.pointer (some ⟨o, 0, none⟩)) ∧ w'.cell? ⟨g, 2, none⟩ = some (.int .i64 most) ∧ w'.cell? ⟨o, 0, none⟩ = some (.slice A' n' c') ∧ w'.cell? ⟨o, 1, none⟩ = some (.slice M' m' d')) (go_keep) ((go_at_call 24; refine (full_to HF.out (by omega) _).mono ?_; rintro e' w5 ⟨rfl, hd⟩; have hu := Upd.of_below hd (fun _ => False); have B5 := Lib.hid (B4.out.drew.upd hu (fun h => h)); have O5 := Lib.hid (O4.out.drew.upd hu (fun h => h)); have S5 := Lib.hid (S4.out.drew.upd hu (fun h => h)); have T5 := Lib.hid (T4.out.drew.upd hu (fun h => h)); have U5 := Lib.hid (U4.out.drew.trans hu (fun _ h => h.elim)); have A5 := Lib.hid (A4.out.drew.upd0 hu); have M5 := Lib.hid (M4.out.drew.upd0 hu); have z50 : w5.cell? ⟨g, 0, none⟩ = some (.pointer (some ⟨o, 0, none⟩)) := B5.out.cell 0; have z52 : w5.cell? ⟨g, 2, none⟩ = some (.int .i64 most) := B5.out.cell 2; have q50 : w5.cell? ⟨o, 0, none⟩ = some (.slice A' n' c') := O5.out.cell 0; have q51 : w5.cell? ⟨o, 1, none⟩ = some (.slice M' m' d') := O5.out.cell 1; clear hd hu))
    clear z0 z2 q0 q1 B4 O4 S4 T4 U4 A4 M4
    have tl := T5.out.lt
    have tf := T5.out.frz
    have B6 := B5
    clear B5
    have O6 := O5
    clear O5
    have S6 := S5
    clear S5
    have T6 := T5
    clear T5
    have U6 := U5
    clear U5
    have A6 := A5
    clear A5
    have M6 := M5
    clear M5
    clear z50 z52 q50 q51 tl tf
    have z0 : w5.cell? ⟨g, 0, none⟩ = some (.pointer (some ⟨o, 0, none⟩)) := B6.out.cell 0
    have t0 : w5.cell? ⟨w.heap.size + 1, 0, none⟩ = some (.bool false) := T6.out.cell 0
    have t1 : w5.cell? ⟨w.heap.size + 1, 1, none⟩ = some (.bool false) := T6.out.cell 1
    have t2 : w5.cell? ⟨w.heap.size + 1, 2, none⟩ = some (.int .u64 0) := T6.out.cell 2
    have t3 : w5.cell? ⟨w.heap.size + 1, 3, none⟩ = some (.slice none 0 0) := T6.out.cell 3
    have t4 : w5.cell? ⟨w.heap.size + 1, 4, none⟩ = some (.slice none 0 0) := T6.out.cell 4
    have s0 : w5.cell? ⟨w.heap.size, 0, none⟩ = some (.bool false) := S6.out.cell 0
    have s1 : w5.cell? ⟨w.heap.size, 1, none⟩ = some (.bool false) := S6.out.cell 1
    have s2 : w5.cell? ⟨w.heap.size, 2, none⟩ = some (.int .u64 0) := S6.out.cell 2
    have s3 : w5.cell? ⟨w.heap.size, 3, none⟩ = some (.slice none 0 0) := S6.out.cell 3
    have s4 : w5.cell? ⟨w.heap.size, 4, none⟩ = some (.slice none 0 0) := S6.out.cell 4
    have sl := S6.out.lt
    have sf := S6.out.frz
    have zl := B6.out.lt
    have zf := B6.out.frz
    have tl := T6.out.lt
    go_wp2
    have SF : Hid (Blk (W5 w5 w.heap.size (.bool false) (.bool false) (.int .u64 0) (.slice none 0 0) (.slice none 0 0)) w.heap.size 42 #[.bool false, .bool false, .int .u64 0, .slice none 0 0, .slice none 0 0]) := Lib.hid (Blk.w5 (.bool false) (.bool false) (.int .u64 0) (.slice none 0 0) (.slice none 0 0) S6.out)
    have BF : Hid (Blk (W5 w5 w.heap.size (.bool false) (.bool false) (.int .u64 0) (.slice none 0 0) (.slice none 0 0)) g 69 #[.pointer (some ⟨o, 0, none⟩), .int .u64 win, .int .i64 most]) := Lib.hid (Blk.w5f (.bool false) (.bool false) (.int .u64 0) (.slice none 0 0) (.slice none 0 0) B6.out (show g ≠ w.heap.size by omega))
    have OF : Hid (Blk (W5 w5 w.heap.size (.bool false) (.bool false) (.int .u64 0) (.slice none 0 0) (.slice none 0 0)) o 72 #[.slice A' n' c', .slice M' m' d', .int .u64 e]) := Lib.hid (Blk.w5f (.bool false) (.bool false) (.int .u64 0) (.slice none 0 0) (.slice none 0 0) O6.out (show o ≠ w.heap.size by omega))
    have UF : Hid (Upd (Fr2 g (some o)) w (W5 w5 w.heap.size (.bool false) (.bool false) (.int .u64 0) (.slice none 0 0) (.slice none 0 0))) := Lib.hid (Upd.w5 (.bool false) (.bool false) (.int .u64 0) (.slice none 0 0) (.slice none 0 0) U6.out (.inr (Nat.le_refl _)))
    have AF : Hid (Sl (W5 w5 w.heap.size (.bool false) (.bool false) (.int .u64 0) (.slice none 0 0) (.slice none 0 0)) A' n' c' (nums xs')) := Lib.hid (Sl.w5 (.bool false) (.bool false) (.int .u64 0) (.slice none 0 0) (.slice none 0 0) A6.out (fun b k e => (HAL3.out b k e).2.2.1))
    have MF : Hid (Sl (W5 w5 w.heap.size (.bool false) (.bool false) (.int .u64 0) (.slice none 0 0) (.slice none 0 0)) M' m' d' (prs ms')) := Lib.hid (Sl.w5 (.bool false) (.bool false) (.int .u64 0) (.slice none 0 0) (.slice none 0 0) M6.out (fun b k e => (HML3.out b k e).2.2.1))
    have lF := SF.out.lt
    have c0 : (W5 w5 w.heap.size (.bool false) (.bool false) (.int .u64 0) (.slice none 0 0) (.slice none 0 0)).cell? ⟨w.heap.size, 0, none⟩ = some (.bool false) := SF.out.cell 0
    have c1 : (W5 w5 w.heap.size (.bool false) (.bool false) (.int .u64 0) (.slice none 0 0) (.slice none 0 0)).cell? ⟨w.heap.size, 1, none⟩ = some (.bool false) := SF.out.cell 1
    have c2 : (W5 w5 w.heap.size (.bool false) (.bool false) (.int .u64 0) (.slice none 0 0) (.slice none 0 0)).cell? ⟨w.heap.size, 2, none⟩ = some (.int .u64 0) := SF.out.cell 2
    have c3 : (W5 w5 w.heap.size (.bool false) (.bool false) (.int .u64 0) (.slice none 0 0) (.slice none 0 0)).cell? ⟨w.heap.size, 3, none⟩ = some (.slice none 0 0) := SF.out.cell 3
    have c4 : (W5 w5 w.heap.size (.bool false) (.bool false) (.int .u64 0) (.slice none 0 0) (.slice none 0 0)).cell? ⟨w.heap.size, 4, none⟩ = some (.slice none 0 0) := SF.out.cell 4
    clear s0 s1 s2 s3 s4 t0 t1 t2 t3 t4 z0 sl sf zl zf tl
    refine bodyPost_ret (v := .agg #[.bool false, .bool false, .int .u64 0, .slice none 0 0, .slice none 0 0]) (by simp [results, Try.results13, go_sem, c0, c1, c2, c3, c4, lF]) rfl ⟨A', c', M', d', rfl, BF.out, OF.out, AF.out, MF.out, NA4.out, NM4.out, UF.out⟩
end Go.Proofs.Ytnpecnljibeddaa
