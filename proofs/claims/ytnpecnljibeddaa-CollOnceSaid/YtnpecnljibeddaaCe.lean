/- A window's Expire, raw. -/
import Derived.Test.YtnpecnljibeddaaCc
namespace Go.Proofs.Ytnpecnljibeddaa
open Go.RowKit
set_option linter.unusedVariables false
set_option linter.unusedSimpArgs false

theorem cexp_nil (now : Int) (w : World) :
    Calls Try.prog 17 #[.pointer none, .int .u64 now] w fun e w' => e = .returned (.tuple #[.agg #[.slice none 0 0, .slice none 0 0], .bool false]) ∧ Below w.heap.size w w' := by
  go_enter Try.func17, Try.ntmps17
  go_wp2_with fail
  refine (open_nil _).mono ?_
  rintro e w1 ⟨rfl, rfl⟩
  go_wp2_with fail
  refine bodyPost_ret (v := .tuple #[.agg #[.slice none 0 0, .slice none 0 0], .bool false]) (by simp [results, Try.results17, go_sem]) rfl ⟨rfl, (by refine Upd.below0 ?_; repeat (first | exact Upd.refl _ _ | refine Upd.alloc ?_ _ | refine Upd.drew ?_ | refine Upd.drewN ?_ _))⟩
theorem cexp_none {g : Nat} {win most : Int} (now : Int) (w : World) (h : Blk w g 69 #[.pointer none, .int .u64 win, .int .i64 most]) :
    Calls Try.prog 17 #[.pointer (some ⟨g, 0, none⟩), .int .u64 now] w fun e w' => e = .returned (.tuple #[.agg #[.slice none 0 0, .slice none 0 0], .bool false]) ∧ Below w.heap.size w w' := by
  have B0 := Lib.hid (h.alloc (.cells #[.slice none 0 0, .slice none 0 0] 40))
  clear h
  go_enter Try.func17, Try.ntmps17
  go_wp2_with fail
  refine (open_none _ B0.out).mono ?_
  rintro e w1 ⟨rfl, rfl⟩
  go_wp2_with fail
  refine bodyPost_ret (v := .tuple #[.agg #[.slice none 0 0, .slice none 0 0], .bool false]) (by simp [results, Try.results17, go_sem]) rfl ⟨rfl, (by refine Upd.below0 ?_; repeat (first | exact Upd.refl _ _ | refine Upd.alloc ?_ _ | refine Upd.drew ?_ | refine Upd.drewN ?_ _))⟩
theorem cexp_early {g o : Nat} {win most e : Int} {x y : Value} (now : Int) (hlt : now < e) (w : World) (h : Blk w g 69 #[.pointer (some ⟨o, 0, none⟩), .int .u64 win, .int .i64 most]) (hO : Blk w o 72 #[x, y, .int .u64 e]) :
    Calls Try.prog 17 #[.pointer (some ⟨g, 0, none⟩), .int .u64 now] w fun e_ w' => e_ = .returned (.tuple #[.agg #[.slice none 0 0, .slice none 0 0], .bool false]) ∧ Below w.heap.size w w' := by
  have B0 := Lib.hid (h.alloc (.cells #[.slice none 0 0, .slice none 0 0] 40))
  have O0 := Lib.hid (hO.alloc (.cells #[.slice none 0 0, .slice none 0 0] 40))
  have x0 : (w.alloc (.cells #[.slice none 0 0, .slice none 0 0] 40)).cell? ⟨g, 0, none⟩ = some (.pointer (some ⟨o, 0, none⟩)) := B0.out.cell 0
  have x2 : (w.alloc (.cells #[.slice none 0 0, .slice none 0 0] 40)).cell? ⟨o, 2, none⟩ = some (.int .u64 e) := O0.out.cell 2
  clear h hO
  go_enter Try.func17, Try.ntmps17
  go_wp2_with fail
  refine (open_some _ B0.out).mono ?_
  rintro e1 w1 ⟨rfl, rfl⟩
  go_wp2_with fail
  refine bodyPost_ret (v := .tuple #[.agg #[.slice none 0 0, .slice none 0 0], .bool false]) (by simp [results, Try.results17, go_sem]) rfl ⟨rfl, (by refine Upd.below0 ?_; repeat (first | exact Upd.refl _ _ | refine Upd.alloc ?_ _ | refine Upd.drew ?_ | refine Upd.drewN ?_ _))⟩
theorem cexp_over {g o n m c d : Nat} {A M : Option Addr} {win most e : Int} (now : Int) (hlt : ¬ now < e) (w : World) (h : Blk w g 69 #[.pointer (some ⟨o, 0, none⟩), .int .u64 win, .int .i64 most]) (hO : Blk w o 72 #[.slice A n c, .slice M m d, .int .u64 e]) :
    Calls Try.prog 17 #[.pointer (some ⟨g, 0, none⟩), .int .u64 now] w fun e_ w' => e_ = .returned (.tuple #[.agg #[.slice A n c, .slice M m d], .bool true]) ∧ Blk w' g 69 #[.pointer none, .int .u64 win, .int .i64 most] ∧ Upd (At g) w w' := by
  have hg := h.lt
  have ho := hO.lt
  have B0 := Lib.hid (h.alloc (.cells #[.slice none 0 0, .slice none 0 0] 40))
  have O0 := Lib.hid (hO.alloc (.cells #[.slice none 0 0, .slice none 0 0] 40))
  have T0 := Lib.hid (Blk.new w #[.slice none 0 0, .slice none 0 0] 40)
  have U0 : Hid (Upd (At g) w _) := Lib.hid ((Upd.refl (At g) w).alloc (.cells #[.slice none 0 0, .slice none 0 0] 40))
  clear h hO
  generalize hw : w.alloc (.cells #[.slice none 0 0, .slice none 0 0] 40) = w1 at *
  have HW := Lib.hid hw
  clear hw
  have x0 : w1.cell? ⟨g, 0, none⟩ = some (.pointer (some ⟨o, 0, none⟩)) := B0.out.cell 0
  have x2 : w1.cell? ⟨o, 2, none⟩ = some (.int .u64 e) := O0.out.cell 2
  have x3 : w1.cell? ⟨o, 0, none⟩ = some (.slice A n c) := O0.out.cell 0
  have x4 : w1.cell? ⟨o, 1, none⟩ = some (.slice M m d) := O0.out.cell 1
  have t0 : w1.cell? ⟨w.heap.size, 0, none⟩ = some (.slice none 0 0) := T0.out.cell 0
  have t1 : w1.cell? ⟨w.heap.size, 1, none⟩ = some (.slice none 0 0) := T0.out.cell 1
  have tl := T0.out.lt
  have gl := B0.out.lt
  have gf := B0.out.frz
  have tf := T0.out.frz
  have n1 : ¬ g = w.heap.size := by omega
  go_enter Try.func17, Try.ntmps17
  go_wp2_with fail
  rw [HW.out]
  refine (open_some _ B0.out).mono ?_
  rintro e1 w2 ⟨rfl, rfl⟩
  go_wp2_with fail
  have TF : Hid (Blk ((((w1.setCell ⟨g, 0, none⟩ (.pointer none)).setCell ⟨w.heap.size, 0, none⟩ (.slice A n c)).setCell ⟨w.heap.size, 1, none⟩ (.slice M m d)).alloc (.cells #[.slice A n c, .slice M m d] 40)) w.heap.size 40 #[.slice A n c, .slice M m d]) := Lib.hid ((((T0.out.far (p := ⟨g, 0, none⟩) (Ne.symm n1) (.pointer none)).set 0 (.slice A n c)).set 1 (.slice M m d)).alloc _)
  have BF : Hid (Blk ((((w1.setCell ⟨g, 0, none⟩ (.pointer none)).setCell ⟨w.heap.size, 0, none⟩ (.slice A n c)).setCell ⟨w.heap.size, 1, none⟩ (.slice M m d)).alloc (.cells #[.slice A n c, .slice M m d] 40)) g 69 #[.pointer none, .int .u64 win, .int .i64 most]) := Lib.hid ((((B0.out.set 0 (.pointer none)).far (p := ⟨w.heap.size, 0, none⟩) n1 (.slice A n c)).far (p := ⟨w.heap.size, 1, none⟩) n1 (.slice M m d)).alloc _)
  have UF : Hid (Upd (At g) w ((((w1.setCell ⟨g, 0, none⟩ (.pointer none)).setCell ⟨w.heap.size, 0, none⟩ (.slice A n c)).setCell ⟨w.heap.size, 1, none⟩ (.slice M m d)).alloc (.cells #[.slice A n c, .slice M m d] 40))) := Lib.hid ((((U0.out.put 0 (.pointer none)).set (p := ⟨w.heap.size, 0, none⟩) (.inr (Nat.le_refl _)) (.slice A n c)).set (p := ⟨w.heap.size, 1, none⟩) (.inr (Nat.le_refl _)) (.slice M m d)).alloc _)
  have c0 : ((((w1.setCell ⟨g, 0, none⟩ (.pointer none)).setCell ⟨w.heap.size, 0, none⟩ (.slice A n c)).setCell ⟨w.heap.size, 1, none⟩ (.slice M m d)).alloc (.cells #[.slice A n c, .slice M m d] 40)).cell? ⟨w.heap.size, 0, none⟩ = some (.slice A n c) := TF.out.cell 0
  have c1 : ((((w1.setCell ⟨g, 0, none⟩ (.pointer none)).setCell ⟨w.heap.size, 0, none⟩ (.slice A n c)).setCell ⟨w.heap.size, 1, none⟩ (.slice M m d)).alloc (.cells #[.slice A n c, .slice M m d] 40)).cell? ⟨w.heap.size, 1, none⟩ = some (.slice M m d) := TF.out.cell 1
  have lF := TF.out.lt
  clear x0 x2 x3 x4 t0 t1 tl gl gf tf
  refine bodyPost_ret (v := .tuple #[.agg #[.slice A n c, .slice M m d], .bool true]) (by simp [results, Try.results17, go_sem, c0, c1, lF]) rfl ⟨rfl, BF.out, UF.out⟩
end Go.Proofs.Ytnpecnljibeddaa
