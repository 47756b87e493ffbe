/- cmp.Compare, cmp.Or, and the holders' order. -/
import Derived.Test.YtkhdgdbbhbphiaaLy
import Derived.Test.YtkhdgdbbhbphiaaPr
namespace Go.Proofs.Ytkhdgdbbhbphiaa
open Go.RowKit Go.Shelf Go.Sort
set_option linter.unusedVariables false
set_option linter.unusedSimpArgs false

def cmpI (a b : Int) : Int := if a < b then -1 else if b < a then 1 else 0
theorem compare_to (a b : Int) (w : World) : Calls Try.prog 29 #[.int .i64 a, .int .i64 b] w fun e w' => e = .returned (.int .i64 (cmpI a b)) ∧ w = w' := by
  have HC : Hid (cmpI a b = if a < b then -1 else if b < a then 1 else 0) := Lib.hid rfl
  by_cases h1 : a < b
  · go_enter Try.func29, Try.ntmps29
    go_wp2
    go_ret
    exact ⟨by rw [HC.out, if_pos h1]; rfl, rfl⟩
  · by_cases h2 : b < a
    · go_enter Try.func29, Try.ntmps29
      go_wp2
      go_ret
      exact ⟨by rw [HC.out, if_neg (by omega), if_pos h2]; rfl, rfl⟩
    · go_enter Try.func29, Try.ntmps29
      go_wp2
      go_ret
      exact ⟨by rw [HC.out, if_neg (by omega), if_neg (by omega)]; rfl, rfl⟩
def orI (x y : Int) : Int := if x ≠ 0 then x else y
theorem or_to (x y : Int) (g : Nat) (w : World) (h0 : w.cell? ⟨g, 0, none⟩ = some (.int .i64 x)) (h1 : w.cell? ⟨g, 1, none⟩ = some (.int .i64 y)) : Calls Try.prog 28 #[.slice (some ⟨g, 0, none⟩) 2 2] w fun e w' => e = .returned (.int .i64 (orI x y)) ∧ w = w' := by
  have HC : Hid (orI x y = if x ≠ 0 then x else y) := Lib.hid rfl
  go_enter Try.func28, Try.ntmps28
  go_wp2_with fail
  go_loopw [8] (fun iv wr => ∃ (k : Nat), k ≤ 2 ∧ iv = .int .i64 k ∧ Hid (1 ≤ k → x = 0) ∧ Hid (2 ≤ k → y = 0) ∧ w = wr) (fun iv _ => 2 - (intOf iv).toNat)
  case atStart => exact ⟨0, by omega, rfl, Lib.hid (fun h => by omega), Lib.hid (fun h => by omega), rfl⟩
  case round =>
    obtain ⟨k, hk, rfl, HX, HY, hw⟩ := hrel
    subst hw
    by_cases hk0 : k = 0
    · subst hk0
      by_cases hx : x = 0
      · have n0 : (x == 0) = true := by simp [hx]
        go_wp2
        go_roundw
        case rel => exact ⟨1, by omega, by go_num, Lib.hid (fun _ => hx), Lib.hid (fun h => by omega), by first | rfl | trivial⟩
        case measure => simp [intOf]
      · have n0 : (x == 0) = false := by simp [hx]
        go_wp2
        go_ret
        exact ⟨by rw [HC.out, if_pos hx]; rfl, rfl⟩
    · by_cases hk1 : k = 1
      · subst hk1
        have hx := HX.out (Nat.le_refl _)
        by_cases hy : y = 0
        · have n0 : (y == 0) = true := by simp [hy]
          go_wp2
          go_roundw
          case rel => exact ⟨2, by omega, by go_num, Lib.hid (fun _ => hx), Lib.hid (fun _ => hy), by first | rfl | trivial⟩
          case measure => simp [intOf]
        · have n0 : (y == 0) = false := by simp [hy]
          go_wp2
          go_ret
          exact ⟨by rw [HC.out, if_neg (by simp [hx])]; rfl, rfl⟩
      · obtain rfl : k = 2 := by omega
        have hx := HX.out (by omega)
        have hy := HY.out (by omega)
        go_wp2
        go_ret
        exact ⟨by rw [HC.out, if_neg (by simp [hx]), hy]; rfl, rfl⟩
def cmpH (x y : H2) : Int := orI (cmpI x.1 y.1) (cmpI x.2 y.2)
theorem cmpH_lt (x y : H2) : ltOf cmpH x y = rless x y := by
  unfold ltOf cmpH orI cmpI rless
  obtain ⟨a, b⟩ := x
  obtain ⟨c, d⟩ := y
  simp only
  by_cases h1 : a < c
  · simp [h1]
  · by_cases h2 : c < a
    · simp [h1, h2]; omega
    · obtain rfl : a = c := by omega
      by_cases h3 : b < d
      · simp [h3]
      · by_cases h4 : d < b <;> simp [h3, h4]
set_option maxHeartbeats 1000000 in
theorem closure_to (x y : H2) (W : World) : Calls Try.prog 27 #[hval x, hval y] W fun e w' => e = .returned (.int .i64 (cmpH x y)) ∧ ∃ q os', w' = grow (W.drewN q) os' := by
  obtain ⟨w1, hw1⟩ : ∃ w1, (W.alloc (.cells #[.int .i64 x.1, .int .i64 x.2] 31)).alloc (.cells #[.int .i64 y.1, .int .i64 y.2] 31) = w1 := ⟨_, rfl⟩
  have hB1 : Blk w1 W.heap.size 31 #[.int .i64 x.1, .int .i64 x.2] := hw1 ▸ (Blk.new W _ _).alloc _
  have hB2 : Blk w1 (W.heap.size + 1) 31 #[.int .i64 y.1, .int .i64 y.2] := hw1 ▸ Blk.new1 W _ _ _
  have x0_ : w1.cell? ⟨W.heap.size, 0, none⟩ = some (.int .i64 x.1) := hB1.cell 0
  have x1_ : w1.cell? ⟨W.heap.size, 1, none⟩ = some (.int .i64 x.2) := hB1.cell 1
  have xl_ := hB1.lt
  have y0_ : w1.cell? ⟨W.heap.size + 1, 0, none⟩ = some (.int .i64 y.1) := hB2.cell 0
  have y1_ : w1.cell? ⟨W.heap.size + 1, 1, none⟩ = some (.int .i64 y.2) := hB2.cell 1
  have yl_ := hB2.lt
  have HW : Hid ((w1.alloc (.cells #[.int .i64 (cmpI x.1 y.1), .int .i64 (cmpI x.2 y.2)] 3)).drew = grow (W.drewN 1) #[.cells #[.int .i64 x.1, .int .i64 x.2] 31, .cells #[.int .i64 y.1, .int .i64 y.2] 31, .cells #[.int .i64 (cmpI x.1 y.1), .int .i64 (cmpI x.2 y.2)] 3]) := Lib.hid (by rw [← hw1, alloc_eq_grow, alloc_eq_grow, alloc_eq_grow, grow_grow, grow_grow]; rfl)
  have HB3 := Lib.hid (Blk.new w1 #[.int .i64 (cmpI x.1 y.1), .int .i64 (cmpI x.2 y.2)] 3).drew
  clear hB1 hB2
  go_enter Try.func27, Try.ntmps27
  go_wp2_with fail
  clear hw1
  go_region_held3 (fun w' => w'.cell? ⟨W.heap.size, 0, none⟩ = some (.int .i64 x.1) ∧ w'.cell? ⟨W.heap.size, 1, none⟩ = some (.int .i64 x.2) ∧ w'.cell? ⟨W.heap.size + 1, 0, none⟩ = some (.int .i64 y.1) ∧ w'.cell? ⟨W.heap.size + 1, 1, none⟩ = some (.int .i64 y.2)) (go_keep) (first | (go_at_call 29; refine (compare_to _ _ _).mono ?_; rintro e_ w5 ⟨rfl, rfl⟩) | (go_at_call 28; refine (or_to (cmpI x.1 y.1) (cmpI x.2 y.2) w1.heap.size _ ?ca ?cb).mono ?_; (case ca => exact HB3.out.cell 0); (case cb => exact HB3.out.cell 1); rintro e_ w5 ⟨rfl, rfl⟩))
  go_wp2
  go_ret
  exact ⟨rfl, 1, _, HW.out⟩
end Go.Proofs.Ytkhdgdbbhbphiaa
