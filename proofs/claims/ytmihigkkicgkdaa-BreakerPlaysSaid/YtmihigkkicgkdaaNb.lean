/- BreakerNobody's walk. -/
import Derived.Test.YtmihigkkicgkdaaAw
import Derived.Test.YtmihigkkicgkdaaArg
namespace Go.Proofs.Ytmihigkkicgkdaa
open Go.RowKit
set_option linter.unusedVariables false
set_option linter.unusedSimpArgs false
/-- A configuration's cells. -/
theorem conf_cells {c : Array Value} (h0 : Oks [.int .i64, .int .i64, .int .i64, .int .i64, .int .i64, .int .i64, .int .u64, .int .u64, .int .i64, .int .i64, .int .u64, .int .i64, .int .u64, .int .u64, .int .i64, .int .i64] c.toList) : ∃ v0 v1 v2 v3 v4 v5 v6 v7 v8 v9 v11 v12 v13 v14 : Value, ∃ sleep force : Int, c = #[v0, v1, v2, v3, v4, v5, v6, v7, v8, v9, .int .u64 sleep, v11, v12, v13, v14, .int .i64 force] ∧ (Lit.int .u64 sleep).wf = true ∧ (Lit.int .i64 force).wf = true := by
  obtain ⟨c⟩ := c
  obtain ⟨v0, r0, e0, o0, h1⟩ := h0.cons
  obtain ⟨v1, r1, e1, o1, h2⟩ := h1.cons
  obtain ⟨v2, r2, e2, o2, h3⟩ := h2.cons
  obtain ⟨v3, r3, e3, o3, h4⟩ := h3.cons
  obtain ⟨v4, r4, e4, o4, h5⟩ := h4.cons
  obtain ⟨v5, r5, e5, o5, h6⟩ := h5.cons
  obtain ⟨v6, r6, e6, o6, h7⟩ := h6.cons
  obtain ⟨v7, r7, e7, o7, h8⟩ := h7.cons
  obtain ⟨v8, r8, e8, o8, h9⟩ := h8.cons
  obtain ⟨v9, r9, e9, o9, h10⟩ := h9.cons
  obtain ⟨v10, r10, e10, o10, h11⟩ := h10.cons
  obtain ⟨v11, r11, e11, o11, h12⟩ := h11.cons
  obtain ⟨v12, r12, e12, o12, h13⟩ := h12.cons
  obtain ⟨v13, r13, e13, o13, h14⟩ := h13.cons
  obtain ⟨v14, r14, e14, o14, h15⟩ := h14.cons
  obtain ⟨v15, r15, e15, o15, h16⟩ := h15.cons
  have e16 := h16.nil
  obtain ⟨sleep, rfl, ws⟩ := o10
  obtain ⟨force, rfl, wf⟩ := o15
  refine ⟨v0, v1, v2, v3, v4, v5, v6, v7, v8, v9, v11, v12, v13, v14, sleep, force, ?_, ws, wf⟩
  simp only at e0
  rw [e0, e1, e2, e3, e4, e5, e6, e7, e8, e9, e10, e11, e12, e13, e14, e15, e16]

set_option maxHeartbeats 2000000 in
theorem nobody_walk (t : Int) (wt : (Lit.int .u64 t).wf = true) (ok : Bool) (c : Array Value)
    (hc : Oks [.int .i64, .int .i64, .int .i64, .int .i64, .int .i64, .int .i64, .int .u64, .int .u64, .int .i64, .int .i64, .int .u64, .int .i64, .int .u64, .int .u64, .int .i64, .int .i64] c.toList) (w : World) :
    Calls Try.prog 8 #[.int .u64 t, .bool ok, .agg c] w fun e w' => e = .returned (.bool true) ∧ Below w.heap.size w w' := by
  obtain ⟨v0, v1, v2, v3, v4, v5, v6, v7, v8, v9, v11, v12, v13, v14, sleep, force, rfl, ws, wf⟩ := conf_cells hc
  have WT := Lib.hid wt
  clear hc wt ws wf
  go_enter Try.func8, Try.ntmps8
  go_wp2_with fail
  refine (awake_any _).mono ?_
  rintro e w1 ⟨rfl, hd1⟩
  have hs1 : w.heap.size < w1.heap.size := by have := hd1.size; simp at this; omega
  have b1 : Blk w1 w.heap.size 28 #[v0, v1, v2, v3, v4, v5, v6, v7, v8, v9, .int .u64 sleep, v11, v12, v13, v14, .int .i64 force] := (Blk.new w _ _).upd (Upd.of_below hd1 (fun _ => False)) (fun h => h)
  have c1 := b1.cell
  have HU := Lib.hid (((Upd.refl (fun _ => False) w).alloc _).trans (Upd.of_below hd1 (fun _ => False)) (fun _ h => h.elim))
  clear b1 hd1
  go_wp2_with fail
  refine (new_any _ _ _ _ _ _ _ _ _ _ _ _ _ _ _ _ _).mono ?_
  rintro e w2 ⟨g, rfl, hb, hg, hd⟩
  have HB := Lib.hid hb
  have HU2 := Lib.hid ((HU.out.trans (Upd.of_below hd (fun _ => False)) (fun _ h => h.elim)).mono (S' := At g) (fun _ h => h.elim))
  have hgw : w.heap.size ≤ g := by omega
  clear hb hd HU c1
  go_wp2_with fail
  refine (ask_nil t _).mono ?_
  rintro e w3 ⟨rfl, rfl⟩
  go_wp2_with fail
  refine (trip_nil t _).mono ?_
  rintro e w4 ⟨rfl, rfl⟩
  go_wp2_with fail
  refine (fin_nil t ok _).mono ?_
  rintro e w5 ⟨rfl, rfl⟩
  go_wp2_with fail
  refine (back_nil _).mono ?_
  rintro e w6 ⟨rfl, rfl⟩
  go_wp2_with fail
  refine (state_nil _).mono ?_
  rintro e w7 ⟨rfl, rfl⟩
  go_wp2_with fail
  refine (since_nil _).mono ?_
  rintro e w8 ⟨rfl, rfl⟩
  go_wp2_with fail
  refine (state_any g _ _ HB.out).mono ?_
  rintro e w9 ⟨rfl, rfl⟩
  go_wp2_with fail
  refine (fin_to (n := false) (b2 := ⟨1, 0, sleep, force⟩) HB.out (by simp [B.fin])).mono ?_
  rintro e w20 ⟨rfl, hb, hu⟩
  have HB3 := Lib.hid hb
  have HU3 := Lib.hid (HU2.out.trans hu (fun _ h => .inl h))
  clear hb hu
  go_wp2_with fail
  refine (back_to (n := false) (b2 := ⟨1, 0, sleep, force⟩) HB3.out (by simp [B.back])).mono ?_
  rintro e w21 ⟨rfl, hb, hu⟩
  have HB4 := Lib.hid hb
  have HU4 := Lib.hid (HU3.out.trans hu (fun _ h => .inl h))
  clear hb hu
  go_wp2_with fail
  refine (since_any g _ _ HB4.out).mono ?_
  rintro e w22 ⟨rfl, rfl⟩
  go_wp2_with fail
  go_ret
  exact ⟨rfl, HU4.out.below (by unfold At; omega)⟩
end Go.Proofs.Ytmihigkkicgkdaa
