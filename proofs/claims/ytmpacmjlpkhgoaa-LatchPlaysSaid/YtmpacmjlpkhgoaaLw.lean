/- What may be: LatchMay's walk; LatchFirst, LatchOnce. -/
import Derived.Test.YtmpacmjlpkhgoaaRn
import Derived.Deep.RegionHeld3
namespace Go.Proofs.Ytmpacmjlpkhgoaa
open Go.RowKit
open Go.Maps (Keyed IsMap Tidy)
set_option linter.unusedVariables false
set_option linter.unusedSimpArgs false

theorem omay_cases {id kd cs vl at_ : Int} (h : omay (id, kd, cs, vl, at_) = true) : (kd = 1 ∧ cs = 0) ∨ (kd = 2 ∧ cs = 0) ∨ (kd = 3 ∧ 1 ≤ cs ∧ cs ≤ 4) ∨ (kd = 4 ∧ vl = 0 ∧ 1 ≤ cs ∧ cs ≤ 4) := by
  unfold omay at h
  simp only at h
  split at h
  · rename_i hc
    have : cs = 0 := by simpa using h
    rcases hc with rfl | rfl <;> simp [this]
  · simp at h
    rcases h with ⟨h1 | ⟨h1, h2⟩, h3, h4⟩ <;> simp [*]

set_option maxHeartbeats 1000000 in
theorem lmay_any (id kd cs vl at_ : Int) (w : World) : Calls Try.prog 7 #[.agg #[.int .i64 id, .int .i64 kd, .int .i64 cs, .int .i64 vl, .int .u64 at_]] w fun e w' => e = .returned (.bool true) ∧ Below w.heap.size w w' := by
  obtain ⟨b, hb⟩ : ∃ b, omay (id, kd, cs, vl, at_) = b := ⟨_, rfl⟩
  have HB := Lib.hid hb
  have main : ∀ w0, Upd (fun _ => False) (w.alloc (.cells #[.int .i64 id, .int .i64 kd, .int .i64 cs, .int .i64 vl, .int .u64 at_] 29)) w0 → Blk w0 w.heap.size 29 #[.int .i64 id, .int .i64 kd, .int .i64 cs, .int .i64 vl, .int .u64 at_] := fun w0 hu => (Blk.new w _ _).upd hu (fun h => h)
  cases b with
  | false =>
    clear hb
    go_enter Try.func7, Try.ntmps7
    go_wp2_with fail
    refine (awake_any _).mono ?_
    rintro e w1 ⟨rfl, hd⟩
    have HU := Lib.hid (((Upd.refl (fun _ => False) w).alloc _).trans (Upd.of_below hd (fun _ => False)) (fun _ h => h.elim))
    have cc := (main w1 (Upd.of_below hd (fun _ => False))).cell
    have hlt := (main w1 (Upd.of_below hd (fun _ => False))).lt
    have x0 := cc 0
    have x1 := cc 1
    have x2 := cc 2
    have x3 := cc 3
    have x4 := cc 4
    clear hd main cc
    go_wp2_with fail
    refine (may_to HB.out _).mono ?_
    rintro e w2 ⟨rfl, hd⟩
    have HU2 := Lib.hid (HU.out.trans (Upd.of_below hd (fun _ => False)) (fun _ h => h.elim))
    clear hd x0 x1 x2 x3 x4
    go_wp2
    go_ret
    exact ⟨rfl, HU2.out.below0⟩
  | true =>
    rcases omay_cases hb with ⟨rfl, rfl⟩ | ⟨rfl, rfl⟩ | ⟨rfl, h1, h2⟩ | ⟨rfl, rfl, h1, h2⟩
    all_goals
      clear hb
      try (have h3 : (cs == 0) = false := by simp; omega)
      try (have h4 : 0 ≤ cs := by omega)
      go_enter Try.func7, Try.ntmps7
      go_wp2_with fail
      refine (awake_any _).mono ?_
      rintro e w1 ⟨rfl, hd⟩
      have HU := Lib.hid (((Upd.refl (fun _ => False) w).alloc _).trans (Upd.of_below hd (fun _ => False)) (fun _ h => h.elim))
      have B1 := Lib.hid (main w1 (Upd.of_below hd (fun _ => False)))
      have cc := B1.out.cell
      have hlt := B1.out.lt
      have x0 := cc 0
      have x1 := cc 1
      have x2 := cc 2
      have x3 := cc 3
      have x4 := cc 4
      clear hd main cc
      go_wp2_with fail
      refine (may_to HB.out _).mono ?_
      rintro e w2 ⟨rfl, hd⟩
      have HU2 := Lib.hid (HU.out.trans (Upd.of_below hd (fun _ => False)) (fun _ h => h.elim))
      have cc := (B1.out.upd (Upd.of_below hd (fun _ => False)) (fun h => h)).cell
      have hlt2 := (B1.out.upd (Upd.of_below hd (fun _ => False)) (fun h => h)).lt
      have y0 := cc 0
      have y1 := cc 1
      have y2 := cc 2
      have y3 := cc 3
      have y4 := cc 4
      clear hd x0 x1 x2 x3 x4 cc
      go_wp2
      go_ret
      exact ⟨rfl, HU2.out.below0⟩

set_option maxHeartbeats 1000000 in
theorem rsame_any (A A' : Option Addr) (n c c' : Nat) (l : List O5) (hn : l.length = n) (hm : n ≤ 1000) (w : World) (ha : Sl w A n c (fl o5 l)) (hb : Sl w A' n c' (fl o5 l)) :
    Calls Try.prog 17 #[.slice A n c, .slice A' n c'] w fun e w' => e = .returned (.bool true) ∧ Below w.heap.size w w' := by
  have HN := Lib.hid hn
  have HA := Lib.hid ha
  have HB := Lib.hid hb
  clear hn ha hb
  go_enter Try.func17, Try.ntmps17
  go_wp2
  go_loopw [5] (fun i wr => ∃ k : Nat, k ≤ n ∧ i = .int .i64 k ∧ Hid (Upd (fun _ => False) w wr)) (fun i _ => n - (intOf i).toNat)
  case atStart => exact ⟨0, Nat.zero_le _, rfl, Lib.hid (Upd.refl _ _)⟩
  case round =>
    obtain ⟨k, hk, rfl, hu⟩ := hrel
    by_cases hlt : k < n
    · obtain ⟨o, ho⟩ : ∃ o, l[k]? = some o := ⟨l[k]'(by rw [HN.out]; exact hlt), List.getElem?_eq_getElem _⟩
      obtain ⟨b, of, e, hb, hc⟩ := (HA.out.upd0 hu.out).row o5_len (by decide) ho
      obtain ⟨b', of', e', hb', hc'⟩ := (HB.out.upd0 hu.out).row o5_len (by decide) ho
      obtain ⟨oi, ok, oc, ov, oa⟩ := o
      have d0 := hc 0 _ rfl
      have d1 := hc 1 _ rfl
      have d2 := hc 2 _ rfl
      have d3 := hc 3 _ rfl
      have d4 := hc 4 _ rfl
      have f0 := hc' 0 _ rfl
      have f1 := hc' 1 _ rfl
      have f2 := hc' 2 _ rfl
      have f3 := hc' 3 _ rfl
      have f4 := hc' 4 _ rfl
      simp only [Nat.add_zero, ← Nat.add_assoc] at d0 d1 d2 d3 d4 f0 f1 f2 f3 f4
      subst e
      subst e'
      have i0 : (0 : Int) ≤ (k : Int) := Int.natCast_nonneg _
      have i1 : (k : Int) < (n : Int) := by omega
      clear ho hc hc'
      go_wp2_with fail
      go_quiet (fail)
      go_wp2
      go_roundw
      case rel => exact ⟨k + 1, by omega, by go_num, Lib.hid (hu.out.drewN _)⟩
      case measure => simp [intOf]; omega
    · go_wp2
      go_ret
      exact ⟨rfl, hu.out.below0⟩

set_option maxHeartbeats 1000000 in
theorem rof_any (A : Option Addr) (n c : Nat) (L : List O5) (hn : L.length = n) (hm : n ≤ 1000) (id : Int) (w : World) (ha : Sl w A n c (fl o5 L)) :
    Calls Try.prog 14 #[.slice A n c, .int .i64 id] w fun e w' => e = .returned (.tuple #[.agg (o5 ((lget L id).getD (0, 0, 0, 0, 0))).toArray, .bool (lget L id).isSome]) ∧ Below w.heap.size w w' := by
  have HN := Lib.hid hn
  have HA := Lib.hid ha
  clear hn ha
  go_enter Try.func14, Try.ntmps14
  go_wp2
  have hlw : w.heap.size < (w.alloc (.cells #[.int .i64 0, .int .i64 0, .int .i64 0, .int .i64 0, .int .u64 0] 29)).heap.size := by simp
  go_loop [6] (fun i => ∃ k : Nat, k ≤ n ∧ i = .int .i64 k ∧ Hid (∀ j o, j < k → L[j]? = some o → o.1 ≠ id)) (fun i => n - (intOf i).toNat)
  case atStart => exact ⟨0, Nat.zero_le _, rfl, Lib.hid (fun j o h => by omega)⟩
  case round =>
    obtain ⟨k, hk, rfl, hno⟩ := hrel
    by_cases hlt : k < n
    · obtain ⟨o, ho⟩ : ∃ o, L[k]? = some o := ⟨L[k]'(by rw [HN.out]; exact hlt), List.getElem?_eq_getElem _⟩
      obtain ⟨b, of, e, hb, hc⟩ := HA.out.row o5_len (by decide) ho
      obtain ⟨oi, ok, oc, ov, oa⟩ := o
      have d0 := hc 0 _ rfl
      have d1 := hc 1 _ rfl
      have d2 := hc 2 _ rfl
      have d3 := hc 3 _ rfl
      have d4 := hc 4 _ rfl
      simp only [Nat.add_zero, ← Nat.add_assoc] at d0 d1 d2 d3 d4
      subst e
      have i0 : (0 : Int) ≤ (k : Int) := Int.natCast_nonneg _
      have i1 : (k : Int) < (n : Int) := by omega
      by_cases he : oi = id
      · subst he
        have HG : Hid (lget L oi = some (oi, ok, oc, ov, oa)) := by
          show _ = _
          unfold lget
          rw [List.find?_eq_some_iff_getElem]
          refine ⟨by simp, k, by rw [HN.out]; exact hlt, (List.getElem?_eq_some_iff.1 ho).2, fun j hj => ?_⟩
          simpa using hno.out j _ hj (List.getElem?_eq_getElem _)
        clear ho hc
        go_wp2
        refine bodyPost_ret (v := .tuple #[.agg #[.int .i64 oi, .int .i64 ok, .int .i64 oc, .int .i64 ov, .int .u64 oa], .bool true]) (by simp [results, Try.results14, go_sem]) rfl ⟨?_, (by refine Upd.below0 ?_; repeat (first | exact Upd.refl _ _ | refine Upd.alloc ?_ _ | refine Upd.drew ?_ | refine Upd.drewN ?_ _))⟩
        rw [HG.out]
        rfl
      · have hb : (oi == id) = false := by simpa using he
        have HNO : Hid (∀ j o, j < k + 1 → L[j]? = some o → o.1 ≠ id) := Lib.hid (fun j o hj hjo => by
          by_cases hjk : j = k
          · subst hjk
            rw [ho] at hjo
            injection hjo with hjo
            rw [← hjo]
            exact he
          · exact hno.out j o (by omega) hjo)
        clear ho hc he
        go_wp2
        go_round
        case rel => exact ⟨k + 1, by omega, by go_num, HNO⟩
        case measure => simp [intOf]; omega
    · have HG : Hid (lget L id = none) := by
        show _ = _
        unfold lget
        rw [List.find?_eq_none]
        intro o ho
        obtain ⟨j, hj, rfl⟩ := List.getElem_of_mem ho
        simpa using hno.out j _ (by have := HN.out; omega) (List.getElem?_eq_getElem hj)
      go_wp2
      refine bodyPost_ret (v := .tuple #[.agg #[.int .i64 0, .int .i64 0, .int .i64 0, .int .i64 0, .int .u64 0], .bool false]) (by simp [results, Try.results14, go_sem]) rfl ⟨?_, (by refine Upd.below0 ?_; repeat (first | exact Upd.refl _ _ | refine Upd.alloc ?_ _ | refine Upd.drew ?_ | refine Upd.drewN ?_ _))⟩
      rw [HG.out]
      rfl
end Go.Proofs.Ytmpacmjlpkhgoaa
