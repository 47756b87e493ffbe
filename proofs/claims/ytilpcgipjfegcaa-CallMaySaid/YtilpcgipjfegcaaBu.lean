/- Batches: what is full, who leads, one. -/
import Derived.Test.YtilpcgipjfegcaaBt
namespace Go.Proofs.Ytilpcgipjfegcaa
open Go.RowKit
set_option linter.unusedVariables false
set_option linter.unusedSimpArgs false

set_option maxHeartbeats 400000 in
theorem one_any (id arg : Int) (w : World) :
    Calls Try.prog 26 #[.int .i64 id, .int .i64 arg] w fun e w' => ∃ A c M d, e = .returned (.agg #[.slice A 1 c, .slice M 1 d]) ∧ Sl w' A 1 c (nums [arg]) ∧ Sl w' M 1 d (prs [(id, 0)]) ∧ (∀ b o, A = some ⟨b, o, none⟩ → w.heap.size ≤ b ∧ b < w'.heap.size) ∧ (∀ b o, M = some ⟨b, o, none⟩ → w.heap.size ≤ b ∧ b < w'.heap.size) ∧ Below w.heap.size w w' := by
  go_enter Try.func26, Try.ntmps26
  go_wp2
  refine bodyPost_ret (v := .agg #[.slice (some ⟨w.heap.size + 1, 0, none⟩) 1 1, .slice (some ⟨w.heap.size + 1 + 1, 0, none⟩) 1 1]) (by simp [results, Try.results26, go_sem]) rfl ⟨_, _, _, _, rfl, ?_, ?_, (fun b o e => by injection e with e; injection e with e; subst e; simp), (fun b o e => by injection e with e; injection e with e; subst e; simp; omega), (by refine Upd.below0 ?_; repeat (first | exact Upd.refl _ _ | refine Upd.alloc ?_ _ | refine Upd.drew ?_ | refine Upd.drewN ?_ _))⟩
  · exact Sl.of_blk ((Blk.new1 w _ #[.int .i64 arg] 3).alloc _) (Nat.le_refl _) (by simp [maxLen]) (fun j u hu => by simpa [nums] using hu)
  · exact Sl.of_blk (Blk.new2 w _ _ #[.int .i64 id, .int .i64 0] 64) (Nat.le_refl _) (by simp [maxLen]) (fun j u hu => by simpa [prs] using hu)

/-- Who leads. -/
def lead (ms : List (Int × Int)) : Int := match ms with | [] => 0 | m :: _ => m.1
end Go.Proofs.Ytilpcgipjfegcaa
