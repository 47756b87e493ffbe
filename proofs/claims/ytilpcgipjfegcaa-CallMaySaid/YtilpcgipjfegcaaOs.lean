/- Outcomes: Same, May. -/
import Derived.Test.YtilpcgipjfegcaaCr
namespace Go.Proofs.Ytilpcgipjfegcaa
open Go.RowKit
set_option linter.unusedVariables false
set_option linter.unusedSimpArgs false

set_option maxHeartbeats 400000 in
theorem may_any (id kd cs vl at_ : Int) (w : World) : Calls Try.prog 25 #[.agg #[.int .i64 id, .int .i64 kd, .int .i64 cs, .int .i64 vl, .int .u64 at_]] w fun e w' => e = .returned (.bool (omay (id, kd, cs, vl, at_))) ∧ Below w.heap.size w w' := by
  go_enter Try.func25, Try.ntmps25
  go_wp2
  all_goals (go_ret; refine ⟨ret_b ?_, (by refine Upd.below0 ?_; repeat (first | exact Upd.refl _ _ | refine Upd.alloc ?_ _ | refine Upd.drew ?_ | refine Upd.drewN ?_ _))⟩; unfold omay; simp_all <;> first | rfl | omega)

theorem may_to {id kd cs vl at_ : Int} {b : Bool} (hb : omay (id, kd, cs, vl, at_) = b) (w : World) : Calls Try.prog 25 #[.agg #[.int .i64 id, .int .i64 kd, .int .i64 cs, .int .i64 vl, .int .u64 at_]] w fun e w' => e = .returned (.bool b) ∧ Below w.heap.size w w' := by
  have := may_any id kd cs vl at_ w
  rwa [hb] at this
set_option maxHeartbeats 1000000 in
theorem rsame_any (A A' : Option Addr) (n c c' : Nat) (l : List O5) (hn : l.length = n) (hm : n ≤ 1000) (w : World) (ha : Sl w A n c (fl o5 l)) (hb : Sl w A' n c' (fl o5 l)) :
    Calls Try.prog 11 #[.slice A n c, .slice A' n c'] w fun e w' => e = .returned (.bool true) ∧ Below w.heap.size w w' := by
  have HN := Lib.hid hn
  have HA := Lib.hid ha
  have HB := Lib.hid hb
  clear hn ha hb
  go_enter Try.func11, Try.ntmps11
  go_wp2
  go_loopw [5] (fun i wr => ∃ k : Nat, k ≤ n ∧ i = .int .i64 k ∧ Hid (Upd (fun _ => False) w wr)) (fun i _ => n - (intOf i).toNat)
  case atStart => exact ⟨0, Nat.zero_le _, rfl, Lib.hid (Upd.refl _ _)⟩
  case round =>
    obtain ⟨k, hk, rfl, hu⟩ := hrel
    by_cases hlt : k < n
    · obtain ⟨o, ho⟩ : ∃ o, l[k]? = some o := ⟨l[k]'(by rw [HN.out]; exact hlt), List.getElem?_eq_getElem _⟩
      obtain ⟨b, of, e, hb, hc⟩ := (HA.out.upd0 hu.out).row o5_len (by decide) ho
      obtain ⟨b', of', e', hb', hc'⟩ := (HB.out.upd0 hu.out).row o5_len (by decide) ho
      obtain ⟨oi, ok, oc, ov, oa⟩ := o
      have d0 := hc 0 _ rfl
      have d1 := hc 1 _ rfl
      have d2 := hc 2 _ rfl
      have d3 := hc 3 _ rfl
      have d4 := hc 4 _ rfl
      have f0 := hc' 0 _ rfl
      have f1 := hc' 1 _ rfl
      have f2 := hc' 2 _ rfl
      have f3 := hc' 3 _ rfl
      have f4 := hc' 4 _ rfl
      simp only [Nat.add_zero, ← Nat.add_assoc] at d0 d1 d2 d3 d4 f0 f1 f2 f3 f4
      subst e
      subst e'
      have i0 : (0 : Int) ≤ (k : Int) := Int.natCast_nonneg _
      have i1 : (k : Int) < (n : Int) := by omega
      clear ho hc hc'
      go_wp2_with fail
      go_quiet (fail)
      go_wp2
      go_roundw
      case rel => exact ⟨k + 1, by omega, by go_num, Lib.hid (hu.out.drewN _)⟩
      case measure => simp [intOf]; omega
    · go_wp2
      go_ret
      exact ⟨rfl, hu.out.below0⟩

theorem rsame_to {A A' : Option Addr} {n c c' : Nat} {l : List O5} (hn : l.length = n) (hm : n ≤ 1000) (w : World) (ha : Sl w A n c (fl o5 l)) (hb : Sl w A' n c' (fl o5 l)) :
    Calls Try.prog 11 #[.slice A n c, .slice A' n c'] w fun e w' => e = .returned (.bool true) ∧ Below w.heap.size w w' := rsame_any A A' n c c' l hn hm w ha hb
theorem few_any (A M : Option Addr) (n c m d : Nat) (hn : n ≤ 9223372036854775807) (hm : m ≤ 9223372036854775807) (w : World) :
    Calls Try.prog 10 #[.agg #[.slice A n c, .slice M m d]] w fun e w' => e = .returned (.bool (decide (n ≤ 50) && decide (m ≤ 50))) ∧ Below w.heap.size w w' := by
  by_cases h1 : n ≤ 50
  · have g1 : (n : Int) ≤ 50 := by omega
    by_cases h2 : m ≤ 50
    · have g2 : (m : Int) ≤ 50 := by omega
      go_enter Try.func10, Try.ntmps10
      go_wp2
      go_ret
      exact ⟨by simp [h1, h2], (by refine Upd.below0 ?_; repeat (first | exact Upd.refl _ _ | refine Upd.alloc ?_ _ | refine Upd.drew ?_ | refine Upd.drewN ?_ _))⟩
    · have g2 : ¬ (m : Int) ≤ 50 := by omega
      go_enter Try.func10, Try.ntmps10
      go_wp2
      go_ret
      exact ⟨by simp [h1, h2], (by refine Upd.below0 ?_; repeat (first | exact Upd.refl _ _ | refine Upd.alloc ?_ _ | refine Upd.drew ?_ | refine Upd.drewN ?_ _))⟩
  · have g1 : ¬ (n : Int) ≤ 50 := by omega
    go_enter Try.func10, Try.ntmps10
    go_wp2
    go_ret
    exact ⟨by simp [h1], (by refine Upd.below0 ?_; repeat (first | exact Upd.refl _ _ | refine Upd.alloc ?_ _ | refine Upd.drew ?_ | refine Upd.drewN ?_ _))⟩
theorem few_to {A M : Option Addr} {n c m d : Nat} {b : Bool} (hb : (decide (n ≤ 50) && decide (m ≤ 50)) = b) (hn : n ≤ 9223372036854775807) (hm : m ≤ 9223372036854775807) (w : World) :
    Calls Try.prog 10 #[.agg #[.slice A n c, .slice M m d]] w fun e w' => e = .returned (.bool b) ∧ Below w.heap.size w w' := by
  have := few_any A M n c m d hn hm w
  rwa [hb] at this
end Go.Proofs.Ytilpcgipjfegcaa
