/- CollNobody. -/
import Derived.Test.YtnpecnljibeddaaAw
namespace Go.Proofs.Ytnpecnljibeddaa
open Go.RowKit
attribute [local go_sem ↓] Go.wp_at_zero Go.wp_at_succ
set_option linter.unusedVariables false
set_option linter.unusedSimpArgs false

theorem cadd_nil (now id arg : Int) (w : World) :
    Calls Try.prog 13 #[.pointer none, .int .u64 now, .int .i64 id, .int .i64 arg] w fun e w' => e = .returned (.agg #[.bool false, .bool false, .int .u64 0, .slice none 0 0, .slice none 0 0]) ∧ Below w.heap.size w w' := by
  go_enter Try.func13, Try.ntmps13
  go_wp2
  refine bodyPost_ret (v := .agg #[.bool false, .bool false, .int .u64 0, .slice none 0 0, .slice none 0 0]) (by simp [results, Try.results13, go_sem]) rfl ⟨rfl, ?_⟩
  refine Upd.below0 ?_
  repeat (first | exact Upd.refl _ _ | refine Upd.alloc ?_ _ | refine Upd.drew ?_ | refine Upd.drewN ?_ _ | refine Upd.set ?_ (.inr (by simp)) _)
set_option maxHeartbeats 8000000 in
theorem cnobody_any (now id most : Int) (w : World) : Calls Try.prog 8 #[.int .u64 now, .int .i64 id, .int .i64 most] w fun e w' => e = .returned (.bool true) ∧ Below w.heap.size w w' := by
  by_cases h1 : 1 ≤ most
  · by_cases h2 : most ≤ 4
    · skip
      go_enter Try.func8, Try.ntmps8
      go_wp2_with fail
      refine (awake_any _).mono ?_
      rintro e_ w1 ⟨rfl, hd⟩
      have U1 := Lib.hid (Upd.of_below hd (fun _ => False))
      clear hd
      go_wp2_with fail
      refine (cadd_nil now id 1 _).mono ?_
      rintro e_ w2 ⟨rfl, hd⟩
      have U2 := Lib.hid (U1.out.trans (Upd.of_below hd (fun _ => False)) (fun _ h => h.elim))
      clear hd
      have B2 := Lib.hid (Blk.new w2 #[.bool false, .bool false, .int .u64 0, .slice none 0 0, .slice none 0 0] 42)
      have U2a := Lib.hid (U2.out.alloc (.cells #[.bool false, .bool false, .int .u64 0, .slice none 0 0, .slice none 0 0] 42))
      go_wp2_with fail
      refine (cexp_nil now _).mono ?_
      rintro e_ w3 ⟨rfl, hd⟩
      have hu := Upd.of_below hd (fun _ => False)
      have B3 := Lib.hid (B2.out.upd hu (fun h => h))
      have U3 := Lib.hid (U2a.out.trans hu (fun _ h => h.elim))
      clear hd hu B2 U2a
      have B3a := Lib.hid (B3.out.alloc (.cells #[.slice none 0 0, .slice none 0 0] 40))
      have U3a := Lib.hid (U3.out.alloc (.cells #[.slice none 0 0, .slice none 0 0] 40))
      go_wp2_with fail
      refine (new_yes (win := 5) (most := most) ⟨by decide, by decide, h1, h2⟩ _).mono ?_
      rintro e_ w4 ⟨g, rfl, hi, hg, hd⟩
      have hu := Upd.of_below hd (fun _ => False)
      have B4 := Lib.hid (B3a.out.upd hu (fun h => h))
      have U4 := Lib.hid (U3a.out.trans hu (fun _ h => h.elim))
      have IC := Lib.hid hi
      clear hd hu hi hg B3a U3a
      have b0 : w4.cell? ⟨w2.heap.size, 0, none⟩ = some (.bool false) := B4.out.cell 0
      have b1 : w4.cell? ⟨w2.heap.size, 1, none⟩ = some (.bool false) := B4.out.cell 1
      have bl := B4.out.lt
      go_wp2_with fail
      refine (open_nil _).mono ?_
      rintro e_ w5 ⟨rfl, rfl⟩
      go_wp2_with fail
      refine (new_no (win := 0) (most := 2) (fun h => absurd h.1 (by decide)) _).mono ?_
      rintro e_ w6 ⟨rfl, rfl⟩
      go_wp2_with fail
      refine (new_no (win := 1099511627777) (most := 2) (fun h => absurd h.2.1 (by decide)) _).mono ?_
      rintro e_ w7 ⟨rfl, rfl⟩
      go_wp2_with fail
      refine (open_to (b := false) IC.out rfl).mono ?_
      rintro e_ w8 ⟨rfl, rfl⟩
      go_wp2
      go_ret
      exact ⟨rfl, U4.out.below0⟩
    · have hd2 : decide (most ≤ 4) = false := by simpa using h2
      go_enter Try.func8, Try.ntmps8
      go_wp2_with fail
      refine (awake_any _).mono ?_
      rintro e_ w1 ⟨rfl, hd⟩
      have U1 := Lib.hid (Upd.of_below hd (fun _ => False))
      clear hd
      go_wp2_with fail
      refine (cadd_nil now id 1 _).mono ?_
      rintro e_ w2 ⟨rfl, hd⟩
      have U2 := Lib.hid (U1.out.trans (Upd.of_below hd (fun _ => False)) (fun _ h => h.elim))
      clear hd
      have B2 := Lib.hid (Blk.new w2 #[.bool false, .bool false, .int .u64 0, .slice none 0 0, .slice none 0 0] 42)
      have U2a := Lib.hid (U2.out.alloc (.cells #[.bool false, .bool false, .int .u64 0, .slice none 0 0, .slice none 0 0] 42))
      go_wp2_with fail
      refine (cexp_nil now _).mono ?_
      rintro e_ w3 ⟨rfl, hd⟩
      have hu := Upd.of_below hd (fun _ => False)
      have B3 := Lib.hid (B2.out.upd hu (fun h => h))
      have U3 := Lib.hid (U2a.out.trans hu (fun _ h => h.elim))
      clear hd hu B2 U2a
      have B3a := Lib.hid (B3.out.alloc (.cells #[.slice none 0 0, .slice none 0 0] 40))
      have U3a := Lib.hid (U3.out.alloc (.cells #[.slice none 0 0, .slice none 0 0] 40))
      go_wp2_with fail
      refine (new_no (win := 5) (most := most) (fun h => absurd h.2.2.2 (by omega)) _).mono ?_
      rintro e_ w4 ⟨rfl, rfl⟩
      have b0 : (w3.alloc (.cells #[.slice none 0 0, .slice none 0 0] 40)).cell? ⟨w2.heap.size, 0, none⟩ = some (.bool false) := B3a.out.cell 0
      have b1 : (w3.alloc (.cells #[.slice none 0 0, .slice none 0 0] 40)).cell? ⟨w2.heap.size, 1, none⟩ = some (.bool false) := B3a.out.cell 1
      have bl := B3a.out.lt
      go_wp2_with fail
      refine (open_nil _).mono ?_
      rintro e_ w5 ⟨rfl, rfl⟩
      go_wp2_with fail
      refine (new_no (win := 0) (most := 2) (fun h => absurd h.1 (by decide)) _).mono ?_
      rintro e_ w6 ⟨rfl, rfl⟩
      go_wp2_with fail
      refine (new_no (win := 1099511627777) (most := 2) (fun h => absurd h.2.1 (by decide)) _).mono ?_
      rintro e_ w7 ⟨rfl, rfl⟩
      go_wp2_with fail
      refine (open_nil _).mono ?_
      rintro e_ w8 ⟨rfl, rfl⟩
      go_wp2
      go_ret
      exact ⟨rfl, U3a.out.below0⟩
  · have hd1 : decide (1 ≤ most) = false := by simpa using h1
    have hd3 : decide (most ≥ 1) = false := by simpa using h1
    go_enter Try.func8, Try.ntmps8
    go_wp2_with fail
    refine (awake_any _).mono ?_
    rintro e_ w1 ⟨rfl, hd⟩
    have U1 := Lib.hid (Upd.of_below hd (fun _ => False))
    clear hd
    go_wp2_with fail
    refine (cadd_nil now id 1 _).mono ?_
    rintro e_ w2 ⟨rfl, hd⟩
    have U2 := Lib.hid (U1.out.trans (Upd.of_below hd (fun _ => False)) (fun _ h => h.elim))
    clear hd
    have B2 := Lib.hid (Blk.new w2 #[.bool false, .bool false, .int .u64 0, .slice none 0 0, .slice none 0 0] 42)
    have U2a := Lib.hid (U2.out.alloc (.cells #[.bool false, .bool false, .int .u64 0, .slice none 0 0, .slice none 0 0] 42))
    go_wp2_with fail
    refine (cexp_nil now _).mono ?_
    rintro e_ w3 ⟨rfl, hd⟩
    have hu := Upd.of_below hd (fun _ => False)
    have B3 := Lib.hid (B2.out.upd hu (fun h => h))
    have U3 := Lib.hid (U2a.out.trans hu (fun _ h => h.elim))
    clear hd hu B2 U2a
    have B3a := Lib.hid (B3.out.alloc (.cells #[.slice none 0 0, .slice none 0 0] 40))
    have U3a := Lib.hid (U3.out.alloc (.cells #[.slice none 0 0, .slice none 0 0] 40))
    go_wp2_with fail
    refine (new_no (win := 5) (most := most) (fun h => absurd h.2.2.1 (by omega)) _).mono ?_
    rintro e_ w4 ⟨rfl, rfl⟩
    have b0 : (w3.alloc (.cells #[.slice none 0 0, .slice none 0 0] 40)).cell? ⟨w2.heap.size, 0, none⟩ = some (.bool false) := B3a.out.cell 0
    have b1 : (w3.alloc (.cells #[.slice none 0 0, .slice none 0 0] 40)).cell? ⟨w2.heap.size, 1, none⟩ = some (.bool false) := B3a.out.cell 1
    have bl := B3a.out.lt
    go_wp2_with fail
    refine (open_nil _).mono ?_
    rintro e_ w5 ⟨rfl, rfl⟩
    go_wp2_with fail
    refine (new_no (win := 0) (most := 2) (fun h => absurd h.1 (by decide)) _).mono ?_
    rintro e_ w6 ⟨rfl, rfl⟩
    go_wp2_with fail
    refine (new_no (win := 1099511627777) (most := 2) (fun h => absurd h.2.1 (by decide)) _).mono ?_
    rintro e_ w7 ⟨rfl, rfl⟩
    go_wp2_with fail
    refine (open_nil _).mono ?_
    rintro e_ w8 ⟨rfl, rfl⟩
    go_wp2
    go_ret
    exact ⟨rfl, U3a.out.below0⟩
theorem cnobody_walk {w : World} (a0 : Int) (w0 : (Lit.int .u64 a0).wf = true) (a1 : Int) (w1 : (Lit.int .i64 a1).wf = true) (a2 : Int) (w2 : (Lit.int .i64 a2).wf = true) :
    Calls Try.prog 8 #[.int .u64 a0, .int .i64 a1, .int .i64 a2] w fun e w' => e = .returned (.bool true) ∧ Below w.heap.size w w' := cnobody_any a0 a1 a2 w
end Go.Proofs.Ytnpecnljibeddaa
