/- The document's Same, of two that are the same. -/
import Derived.Test.YtnpecnljibeddaaBu
import Derived.Test.YtnpecnljibeddaaSa
import Derived.Deep.RegionHeld3
namespace Go.Proofs.Ytnpecnljibeddaa
open Go.RowKit
set_option linter.unusedVariables false
set_option linter.unusedSimpArgs false

set_option maxHeartbeats 4000000 in
theorem same_any (A M A' M' : Option Addr) (n c m d c' d' : Nat) (xs : List Int) (ms : List (Int × Int)) (hn : xs.length = n) (hm : ms.length = m) (hn1 : n ≤ 1000) (hm1 : m ≤ 1000) (w : World) (ha : Sl w A n c (nums xs)) (hb : Sl w M m d (prs ms)) (ha' : Sl w A' n c' (nums xs)) (hb' : Sl w M' m d' (prs ms)) :
    Calls Try.prog 15 #[.agg #[.slice A n c, .slice M m d], .agg #[.slice A' n c', .slice M' m d']] w fun e w' => e = .returned (.bool true) ∧ Below w.heap.size w w' := by
  have HN := Lib.hid hn
  have HM := Lib.hid hm
  have HA := Lib.hid ha
  have HB := Lib.hid hb
  have HA' := Lib.hid ha'
  have HB' := Lib.hid hb'
  clear hn hm ha hb ha' hb'
  go_enter Try.func15, Try.ntmps15
  go_wp2_with fail
  go_loopw [5] (fun iv wr => ∃ (j : Nat), j ≤ n ∧ iv = .int .i64 j ∧ Hid (Blk wr w.heap.size 30 #[.slice A n c, .slice M m d]) ∧ Hid (Blk wr (w.heap.size + 1) 30 #[.slice A' n c', .slice M' m d']) ∧ Hid (Upd (fun _ => False) w wr)) (fun iv _ => n - (intOf iv).toNat)
  case atStart => exact ⟨0, Nat.zero_le _, rfl, Lib.hid ((Blk.new w _ _).alloc _), Lib.hid (Blk.new1 w _ _ _), Lib.hid (by repeat (first | exact Upd.refl _ _ | refine Upd.alloc ?_ _ | refine Upd.drew ?_ | refine Upd.drewN ?_ _ | refine Upd.put ?_ _ _))⟩
  case round =>
    obtain ⟨j, hj, rfl, hb1, hb2, hu⟩ := hrel
    have c1 := hb1.out.cell 0
    have c2 := hb2.out.cell 0
    have e1 := hb1.out.cell 1
    have e2 := hb2.out.cell 1
    have j0 : (0 : Int) ≤ (j : Int) := Int.natCast_nonneg _
    by_cases hlt : j < n
    · obtain ⟨x, hx⟩ : ∃ x, xs[j]? = some x := ⟨xs[j]'(by rw [HN.out]; exact hlt), List.getElem?_eq_getElem _⟩
      obtain ⟨ab, ao, rfl, hab, a0⟩ := (HA.out.upd0 hu.out).num hx
      obtain ⟨bb, bo, rfl, hbb, b0⟩ := (HA'.out.upd0 hu.out).num hx
      have j1 : (j : Int) < (n : Int) := by omega
      clear hx
      go_wp2_with fail
      go_quiet (fail)
      go_wp2
      go_roundw
      case rel => exact ⟨j + 1, by omega, by go_num, Lib.hid (hb1.out.drewN _), Lib.hid (hb2.out.drewN _), Lib.hid (hu.out.drewN _)⟩
      case measure => simp [intOf]; omega
    · go_wp2_with fail
      go_loopw [6] (fun iv wv => ∃ (k : Nat), k ≤ m ∧ iv = .int .i64 k ∧ Hid (Upd (fun _ => False) wr wv)) (fun iv _ => m - (intOf iv).toNat)
      case atStart => exact ⟨0, Nat.zero_le _, rfl, Lib.hid (Upd.refl _ _)⟩
      case round =>
        obtain ⟨k, hk, rfl, hu2⟩ := hrel
        have HU2 := Lib.hid (hu.out.trans hu2.out (fun _ h => h.elim))
        have d1 := (hb1.out.upd hu2.out (fun h => h)).cell 1
        have d2 := (hb2.out.upd hu2.out (fun h => h)).cell 1
        have k0 : (0 : Int) ≤ (k : Int) := Int.natCast_nonneg _
        by_cases hlt2 : k < m
        · obtain ⟨x, hx⟩ : ∃ x, ms[k]? = some x := ⟨ms[k]'(by rw [HM.out]; exact hlt2), List.getElem?_eq_getElem _⟩
          obtain ⟨ab, ao, rfl, hab, a0, a1⟩ := (HB.out.upd0 HU2.out).pr hx
          obtain ⟨bb, bo, rfl, hbb, b0, b1⟩ := (HB'.out.upd0 HU2.out).pr hx
          have k1 : (k : Int) < (m : Int) := by omega
          clear hx c1 c2 e1 e2
          go_wp2_with fail
          go_quiet (fail)
          go_wp2
          go_roundw
          case rel => exact ⟨k + 1, by omega, by go_num, Lib.hid (hu2.out.drewN _)⟩
          case measure => simp [intOf]; omega
        · go_wp2
          go_ret
          exact ⟨rfl, HU2.out.below0⟩
end Go.Proofs.Ytnpecnljibeddaa
