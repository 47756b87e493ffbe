/- Batches: what is full, who leads, one. -/
import Derived.Test.YtnpecnljibeddaaBt
namespace Go.Proofs.Ytnpecnljibeddaa
open Go.RowKit
set_option linter.unusedVariables false
set_option linter.unusedSimpArgs false

theorem full_to {A : Option Addr} {n c : Nat} {v : Value} {most : Int} {f : Bool} (hf : decide ((n : Int) ≥ most) = f) (hm : n ≤ 9223372036854775807) (w : World) :
    Calls Try.prog 24 #[.agg #[.slice A n c, v], .int .i64 most] w fun e w' => e = .returned (.bool f) ∧ Below w.heap.size w w' := by
  go_enter Try.func24, Try.ntmps24
  go_wp2
  go_ret
  exact ⟨rfl, (by refine Upd.below0 ?_; repeat (first | exact Upd.refl _ _ | refine Upd.alloc ?_ _ | refine Upd.drew ?_ | refine Upd.drewN ?_ _))⟩

set_option maxHeartbeats 400000 in
theorem one_any (id arg : Int) (w : World) :
    Calls Try.prog 22 #[.int .i64 id, .int .i64 arg] w fun e w' => ∃ A c M d, e = .returned (.agg #[.slice A 1 c, .slice M 1 d]) ∧ Sl w' A 1 c (nums [arg]) ∧ Sl w' M 1 d (prs [(id, 0)]) ∧ (∀ b o, A = some ⟨b, o, none⟩ → w.heap.size ≤ b ∧ b < w'.heap.size) ∧ (∀ b o, M = some ⟨b, o, none⟩ → w.heap.size ≤ b ∧ b < w'.heap.size) ∧ Below w.heap.size w w' := by
  go_enter Try.func22, Try.ntmps22
  go_wp2
  refine bodyPost_ret (v := .agg #[.slice (some ⟨w.heap.size + 1, 0, none⟩) 1 1, .slice (some ⟨w.heap.size + 1 + 1, 0, none⟩) 1 1]) (by simp [results, Try.results22, go_sem]) rfl ⟨_, _, _, _, rfl, ?_, ?_, (fun b o e => by injection e with e; injection e with e; subst e; simp), (fun b o e => by injection e with e; injection e with e; subst e; simp; omega), (by refine Upd.below0 ?_; repeat (first | exact Upd.refl _ _ | refine Upd.alloc ?_ _ | refine Upd.drew ?_ | refine Upd.drewN ?_ _))⟩
  · exact Sl.of_blk ((Blk.new1 w _ #[.int .i64 arg] 3).alloc _) (Nat.le_refl _) (by simp [maxLen]) (fun j u hu => by simpa [nums] using hu)
  · exact Sl.of_blk (Blk.new2 w _ _ #[.int .i64 id, .int .i64 0] 58) (Nat.le_refl _) (by simp [maxLen]) (fun j u hu => by simpa [prs] using hu)

/-- Who leads. -/
def lead (ms : List (Int × Int)) : Int := match ms with | [] => 0 | m :: _ => m.1
set_option maxHeartbeats 400000 in
theorem lead_any (v : Value) (M : Option Addr) (d : Nat) (ms : List (Int × Int)) (w : World) (hs : Sl w M ms.length d (prs ms)) :
    Calls Try.prog 20 #[.agg #[v, .slice M ms.length d]] w fun e w' => e = .returned (.int .i64 (lead ms)) ∧ Below w.heap.size w w' := by
  cases ms with
  | nil =>
    go_enter Try.func20, Try.ntmps20
    go_wp2
    go_loopw [8] (fun i wr => i = .int .i64 0 ∧ Hid (Upd (fun _ => False) w wr)) (fun i _ => 0)
    case atStart => exact ⟨rfl, Lib.hid (by repeat (first | exact Upd.refl _ _ | refine Upd.alloc ?_ _ | refine Upd.drew ?_ | refine Upd.drewN ?_ _ | refine Upd.put ?_ _ _))⟩
    case round =>
      obtain ⟨rfl, hu⟩ := hrel
      go_wp2
      go_ret
      exact ⟨rfl, hu.out.below0⟩
  | cons m ms =>
    obtain ⟨b, o, rfl, hb, h0, h1⟩ := hs.pr (i := 0) (m := m) rfl
    have h0' : w.cell? ⟨b, o, none⟩ = some (.int .i64 m.1) := by simpa using h0
    have h1' : w.cell? ⟨b, o + 1, none⟩ = some (.int .i64 m.2) := by simpa using h1
    clear h0 h1 hs
    go_enter Try.func20, Try.ntmps20
    go_wp2
    go_loopw [8] (fun i wr => i = .int .i64 0 ∧ Hid (Upd (fun _ => False) w wr)) (fun i _ => 0)
    case atStart => exact ⟨rfl, Lib.hid (by repeat (first | exact Upd.refl _ _ | refine Upd.alloc ?_ _ | refine Upd.drew ?_ | refine Upd.drewN ?_ _ | refine Upd.put ?_ _ _))⟩
    case round =>
      obtain ⟨rfl, hu⟩ := hrel
      have q0 := (hu.out.cellq (p := ⟨b, o, none⟩) hb (fun h => h)).trans h0'
      have q1 := (hu.out.cellq (p := ⟨b, o + 1, none⟩) hb (fun h => h)).trans h1'
      go_wp2
      go_ret
      exact ⟨rfl, (hu.out.alloc _).below0⟩
end Go.Proofs.Ytnpecnljibeddaa
