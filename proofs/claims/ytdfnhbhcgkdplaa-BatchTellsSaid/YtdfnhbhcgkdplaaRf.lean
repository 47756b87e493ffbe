/- The document's small functions, and few. -/
import Derived.Test.YtdfnhbhcgkdplaaSm
import Derived.Test.YtdfnhbhcgkdplaaOw
namespace Go.Proofs.Ytdfnhbhcgkdplaa
open Go.RowKit
set_option linter.unusedVariables false
set_option linter.unusedSimpArgs false

set_option maxHeartbeats 400000 in
theorem few_any (A M : Option Addr) (n c m d : Nat) (hn : n ≤ 9223372036854775807) (hm : m ≤ 9223372036854775807) (w : World) :
    Calls Try.prog 10 #[.agg #[.slice A n c, .slice M m d]] w fun e w' => e = .returned (.bool (decide (n ≤ 50) && decide (m ≤ 50))) ∧ Below w.heap.size w w' := by
  by_cases h1 : n ≤ 50
  · have g1 : (n : Int) ≤ 50 := by omega
    by_cases h2 : m ≤ 50
    · have g2 : (m : Int) ≤ 50 := by omega
      go_enter Try.func10, Try.ntmps10
      go_wp2
      go_ret
      exact ⟨by simp [h1, h2], (by refine Upd.below0 ?_; repeat (first | exact Upd.refl _ _ | refine Upd.alloc ?_ _ | refine Upd.drew ?_ | refine Upd.drewN ?_ _))⟩
    · have g2 : ¬ (m : Int) ≤ 50 := by omega
      go_enter Try.func10, Try.ntmps10
      go_wp2
      go_ret
      exact ⟨by simp [h1, h2], (by refine Upd.below0 ?_; repeat (first | exact Upd.refl _ _ | refine Upd.alloc ?_ _ | refine Upd.drew ?_ | refine Upd.drewN ?_ _))⟩
  · have g1 : ¬ (n : Int) ≤ 50 := by omega
    go_enter Try.func10, Try.ntmps10
    go_wp2
    go_ret
    exact ⟨by simp [h1], (by refine Upd.below0 ?_; repeat (first | exact Upd.refl _ _ | refine Upd.alloc ?_ _ | refine Upd.drew ?_ | refine Upd.drewN ?_ _))⟩

set_option maxHeartbeats 400000 in
theorem rlead_any (A M : Option Addr) (n c d m : Nat) (ms : List (Int × Int)) (hm : ms.length = m) (w : World) (hs : Sl w M m d (prs ms)) :
    Calls Try.prog 21 #[.agg #[.slice A n c, .slice M m d]] w fun e w' => e = .returned (.int .i64 (lead ms)) ∧ Below w.heap.size w w' := by
  cases ms with
  | nil =>
    simp only [List.length_nil] at hm
    subst hm
    go_enter Try.func21, Try.ntmps21
    go_wp2
    go_ret
    exact ⟨rfl, (by refine Upd.below0 ?_; repeat (first | exact Upd.refl _ _ | refine Upd.alloc ?_ _ | refine Upd.drew ?_ | refine Upd.drewN ?_ _))⟩
  | cons x ms =>
    obtain ⟨mb, mo, rfl, hmb, m0, m1⟩ := hs.pr (i := 0) (m := x) rfl
    simp only [Nat.zero_mul, Nat.add_zero] at m0 m1
    have hpos : 0 < m := by simp at hm; omega
    have hpos' : (0 : Int) < (m : Int) := by omega
    have hne : ¬ (m : Int) = 0 := by omega
    have x0 := held_alloc m0 (.cells #[.slice A n c, .slice (some ⟨mb, mo, none⟩) m d] 25)
    clear hs hm m0 m1
    go_enter Try.func21, Try.ntmps21
    go_wp2
    go_ret
    exact ⟨rfl, (by refine Upd.below0 ?_; repeat (first | exact Upd.refl _ _ | refine Upd.alloc ?_ _ | refine Upd.drew ?_ | refine Upd.drewN ?_ _))⟩

set_option maxHeartbeats 400000 in
theorem rone_any (id arg : Int) (w : World) :
    Calls Try.prog 22 #[.int .i64 id, .int .i64 arg] w fun e w' => ∃ A c M d, e = .returned (.agg #[.slice A 1 c, .slice M 1 d]) ∧ Sl w' A 1 c (nums [arg]) ∧ Sl w' M 1 d (prs [(id, 0)]) ∧ Below w.heap.size w w' := by
  go_enter Try.func22, Try.ntmps22
  go_wp2
  refine bodyPost_ret (v := .agg #[.slice (some ⟨w.heap.size + 1, 0, none⟩) 1 1, .slice (some ⟨w.heap.size + 1 + 1, 0, none⟩) 1 1]) (by simp [results, Try.results22, go_sem]) rfl ⟨_, _, _, _, rfl, ?_, ?_, (by refine Upd.below0 ?_; repeat (first | exact Upd.refl _ _ | refine Upd.alloc ?_ _ | refine Upd.drew ?_ | refine Upd.drewN ?_ _))⟩
  · exact Sl.of_blk ((Blk.new1 w _ #[.int .i64 arg] 3).alloc _) (Nat.le_refl _) (by simp [maxLen]) (fun j u hu => by simpa [nums] using hu)
  · exact Sl.of_blk (Blk.new2 w _ _ #[.int .i64 id, .int .i64 0] 45) (Nat.le_refl _) (by simp [maxLen]) (fun j u hu => by simpa [prs] using hu)
end Go.Proofs.Ytdfnhbhcgkdplaa
