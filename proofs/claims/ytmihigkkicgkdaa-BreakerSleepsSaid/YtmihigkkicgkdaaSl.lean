/- BreakerSleeps' walk. -/
import Derived.Test.YtmihigkkicgkdaaAw
import Derived.Test.YtmihigkkicgkdaaArg
namespace Go.Proofs.Ytmihigkkicgkdaa
open Go.RowKit
set_option linter.unusedVariables false
set_option linter.unusedSimpArgs false

theorem sadd_ge {a b : Int} (ha : ok64 a) (hb : ok64 b) : a ≤ sadd a b := by
  unfold sadd ok64 top at *; split <;> omega
set_option maxHeartbeats 4000000 in
theorem sleeps_any (a s m : Int) (ha : ok64 a) (hs : ok64 s) (hm : ok64 m) (ok : Bool) (w : World) :
    Calls Try.prog 3 #[.agg #[.int .u64 a, .int .u64 s, .int .u64 m], .bool ok] w fun e w' => e = .returned (.bool true) ∧ Below w.heap.size w w' := by
  have HA := Lib.hid ha
  have HS := Lib.hid hs
  have HM := Lib.hid hm
  have HE := Lib.hid (sadd_ok ha hs)
  have HL := Lib.hid (sadd_ok HE.out hm)
  have HG := Lib.hid (sadd_ok HL.out hs)
  have hae := sadd_ge ha hs
  have hlg := sadd_ge HL.out hs
  have a0 : 0 ≤ a := ha.1
  have e1 : sadd a s ≤ 18446744073709551615 := HE.out.2
  have l0 : 0 ≤ sadd (sadd a s) m := HL.out.1
  clear ha hs hm
  go_enter Try.func3, Try.ntmps3
  go_wp2_with fail
  refine (awake_any _).mono ?_
  rintro e w1 ⟨rfl, hd1⟩
  have hs1 : w.heap.size < w1.heap.size := by have := hd1.size; simp at this; omega
  have b1 : Blk w1 w.heap.size 23 #[.int .u64 a, .int .u64 s, .int .u64 m] := (Blk.new w _ _).upd (Upd.of_below hd1 (fun _ => False)) (fun h => h)
  have c1 := b1.cell
  have HU := Lib.hid (((Upd.refl (fun _ => False) w).alloc _).trans (Upd.of_below hd1 (fun _ => False)) (fun _ h => h.elim))
  clear b1 hd1
  go_wp2_with fail
  refine (conf_any s 0 _ (by omega) (by omega)).mono ?_
  rintro e w2 ⟨rfl, hd⟩
  have HU2 := Lib.hid (HU.out.trans (Upd.of_below hd (fun _ => False)) (fun _ h => h.elim))
  have hs2 : w.heap.size < w2.heap.size := by have := hd.size; omega
  clear hd HU c1
  go_wp2_with fail
  refine (new_any _ _ _ _ _ _ _ _ _ _ _ _ _ _ _ _ _).mono ?_
  rintro e w3 ⟨g, rfl, hb, hg, hd⟩
  have HB := Lib.hid hb
  have HU := Lib.hid ((HU2.out.trans (Upd.of_below hd (fun _ => False)) (fun _ h => h.elim)).mono (S' := At g) (fun _ h => h.elim))
  have hgw : w.heap.size ≤ g := by omega
  clear hb hd HU2
  go_wp2_with fail
  refine (trip_to (n := true) (b := ⟨1, 0, s, 0⟩) (b2 := ⟨2, a, s, 0⟩) HB.out (by simp [B.trip])).mono ?_
  rintro e ws0 ⟨rfl, hb, hu⟩
  have hsz0 := Lib.hid hu.size
  have HB2 := Lib.hid hb
  have HU2 := Lib.hid (HU.out.trans hu (fun _ h => .inl h))
  clear hb hu HB HU
  have HB := HB2
  have HU := HU2
  clear HB2 HU2
  go_wp2_with fail
  refine (ref_add a s _ HA.out HS.out).mono ?_
  rintro e w90 ⟨rfl, rfl⟩
  by_cases hlt : a < sadd a s
  · have h1 : ¬ (sadd a s ≤ a) := by omega
    have h2 : ¬ (sadd a s ≤ sadd a s - 1) := by omega
    go_wp2_with fail
    refine (ask_to (n := 3) (b := ⟨2, a, s, 0⟩) (b2 := ⟨2, a, s, 0⟩) HB.out (by exact ⟨HA.out, HS.out⟩) (by simp [B.ask, h1])).mono ?_
    rintro e ws1 ⟨rfl, hb, hu⟩
    have hsz1 := Lib.hid hu.size
    have HB2 := Lib.hid hb
    have HU2 := Lib.hid (HU.out.trans hu (fun _ h => .inl h))
    clear hb hu HB HU
    have HB := HB2
    have HU := HU2
    clear HB2 HU2
    go_wp2_with fail
    refine (ask_to (n := 3) (b := ⟨2, a, s, 0⟩) (b2 := ⟨2, a, s, 0⟩) HB.out (by exact ⟨HA.out, HS.out⟩) (by simp [B.ask, h2])).mono ?_
    rintro e ws2 ⟨rfl, hb, hu⟩
    have hsz2 := Lib.hid hu.size
    have HB2 := Lib.hid hb
    have HU2 := Lib.hid (HU.out.trans hu (fun _ h => .inl h))
    clear hb hu HB HU
    have HB := HB2
    have HU := HU2
    clear HB2 HU2
    go_wp2_with fail
    refine (ask_to (n := 2) (b := ⟨2, a, s, 0⟩) (b2 := ⟨3, a, s, 0⟩) HB.out (by exact ⟨HA.out, HS.out⟩) (by simp [B.ask])).mono ?_
    rintro e ws3 ⟨rfl, hb, hu⟩
    have hsz3 := Lib.hid hu.size
    have HB2 := Lib.hid hb
    have HU2 := Lib.hid (HU.out.trans hu (fun _ h => .inl h))
    clear hb hu HB HU
    have HB := HB2
    have HU := HU2
    clear HB2 HU2
    go_wp2_with fail
    refine (ref_add (sadd a s) m _ HE.out HM.out).mono ?_
    rintro e w91 ⟨rfl, rfl⟩
    cases ok
    · skip
      go_wp2_with fail
      refine (fin_to (n := true) (b := ⟨3, a, s, 0⟩) (b2 := ⟨2, sadd (sadd a s) m, s, 0⟩) HB.out (by simp [B.fin])).mono ?_
      rintro e ws4 ⟨rfl, hb, hu⟩
      have hsz4 := Lib.hid hu.size
      have HB2 := Lib.hid hb
      have HU2 := Lib.hid (HU.out.trans hu (fun _ h => .inl h))
      clear hb hu HB HU
      have HB := HB2
      have HU := HU2
      clear HB2 HU2
      go_wp2_with fail
      refine (ref_add (sadd (sadd a s) m) s _ HL.out HS.out).mono ?_
      rintro e w92 ⟨rfl, rfl⟩
      by_cases hq : sadd (sadd a s) m = sadd (sadd (sadd a s) m) s
      · have hq1 : (sadd (sadd a s) m == sadd (sadd (sadd a s) m) s) = true := by simpa using hq
        have HQ := Lib.hid hq
        clear hq
        go_wp2_with fail
        refine (since_any g _ _ HB.out).mono ?_
        rintro e w93 ⟨rfl, rfl⟩
        go_wp2_with fail
        refine (ask_to (n := 2) (b := ⟨2, sadd (sadd a s) m, s, 0⟩) (b2 := ⟨3, sadd (sadd a s) m, s, 0⟩) HB.out (by exact ⟨HL.out, HS.out⟩) (by simp [B.ask])).mono ?_
        rintro e ws5 ⟨rfl, hb, hu⟩
        have hsz5 := Lib.hid hu.size
        have HB2 := Lib.hid hb
        have HU2 := Lib.hid (HU.out.trans hu (fun _ h => .inl h))
        clear hb hu HB HU
        have HB := HB2
        have HU := HU2
        clear HB2 HU2
        go_wp2_with fail
        go_ret
        exact ⟨rfl, HU.out.below (by unfold At; omega)⟩
      · have hq1 : (sadd (sadd a s) m == sadd (sadd (sadd a s) m) s) = false := by simpa using hq
        have hq2 : ¬ (sadd (sadd (sadd a s) m) s ≤ sadd (sadd a s) m) := by omega
        clear hq
        go_wp2_with fail
        refine (ask_to (n := 3) (b := ⟨2, sadd (sadd a s) m, s, 0⟩) (b2 := ⟨2, sadd (sadd a s) m, s, 0⟩) HB.out (by exact ⟨HL.out, HS.out⟩) (by simp [B.ask, hq2])).mono ?_
        rintro e ws6 ⟨rfl, hb, hu⟩
        have hsz6 := Lib.hid hu.size
        have HB2 := Lib.hid hb
        have HU2 := Lib.hid (HU.out.trans hu (fun _ h => .inl h))
        clear hb hu HB HU
        have HB := HB2
        have HU := HU2
        clear HB2 HU2
        go_wp2_with fail
        refine (since_any g _ _ HB.out).mono ?_
        rintro e w94 ⟨rfl, rfl⟩
        go_wp2_with fail
        refine (ask_to (n := 2) (b := ⟨2, sadd (sadd a s) m, s, 0⟩) (b2 := ⟨3, sadd (sadd a s) m, s, 0⟩) HB.out (by exact ⟨HL.out, HS.out⟩) (by simp [B.ask])).mono ?_
        rintro e ws7 ⟨rfl, hb, hu⟩
        have hsz7 := Lib.hid hu.size
        have HB2 := Lib.hid hb
        have HU2 := Lib.hid (HU.out.trans hu (fun _ h => .inl h))
        clear hb hu HB HU
        have HB := HB2
        have HU := HU2
        clear HB2 HU2
        go_wp2_with fail
        go_ret
        exact ⟨rfl, HU.out.below (by unfold At; omega)⟩
    · skip
      go_wp2_with fail
      refine (fin_to (n := true) (b := ⟨3, a, s, 0⟩) (b2 := ⟨1, a, s, 0⟩) HB.out (by simp [B.fin])).mono ?_
      rintro e ws8 ⟨rfl, hb, hu⟩
      have hsz8 := Lib.hid hu.size
      have HB2 := Lib.hid hb
      have HU2 := Lib.hid (HU.out.trans hu (fun _ h => .inl h))
      clear hb hu HB HU
      have HB := HB2
      have HU := HU2
      clear HB2 HU2
      go_wp2_with fail
      refine (ref_add (sadd (sadd a s) m) s _ HL.out HS.out).mono ?_
      rintro e w95 ⟨rfl, rfl⟩
      go_wp2_with fail
      refine (ask_to (n := 1) (b := ⟨1, a, s, 0⟩) (b2 := ⟨1, a, s, 0⟩) HB.out (by exact ⟨HA.out, HS.out⟩) (by simp [B.ask])).mono ?_
      rintro e ws9 ⟨rfl, hb, hu⟩
      have hsz9 := Lib.hid hu.size
      have HB2 := Lib.hid hb
      have HU2 := Lib.hid (HU.out.trans hu (fun _ h => .inl h))
      clear hb hu HB HU
      have HB := HB2
      have HU := HU2
      clear HB2 HU2
      go_wp2_with fail
      refine (ask_to (n := 1) (b := ⟨1, a, s, 0⟩) (b2 := ⟨1, a, s, 0⟩) HB.out (by exact ⟨HA.out, HS.out⟩) (by simp [B.ask])).mono ?_
      rintro e ws10 ⟨rfl, hb, hu⟩
      have hsz10 := Lib.hid hu.size
      have HB2 := Lib.hid hb
      have HU2 := Lib.hid (HU.out.trans hu (fun _ h => .inl h))
      clear hb hu HB HU
      have HB := HB2
      have HU := HU2
      clear HB2 HU2
      go_wp2_with fail
      go_ret
      exact ⟨rfl, HU.out.below (by unfold At; omega)⟩
  · skip
    go_wp2_with fail
    refine (ask_to (n := 2) (b := ⟨2, a, s, 0⟩) (b2 := ⟨3, a, s, 0⟩) HB.out (by exact ⟨HA.out, HS.out⟩) (by simp [B.ask])).mono ?_
    rintro e ws11 ⟨rfl, hb, hu⟩
    have hsz11 := Lib.hid hu.size
    have HB2 := Lib.hid hb
    have HU2 := Lib.hid (HU.out.trans hu (fun _ h => .inl h))
    clear hb hu HB HU
    have HB := HB2
    have HU := HU2
    clear HB2 HU2
    go_wp2_with fail
    refine (ref_add (sadd a s) m _ HE.out HM.out).mono ?_
    rintro e w96 ⟨rfl, rfl⟩
    cases ok
    · skip
      go_wp2_with fail
      refine (fin_to (n := true) (b := ⟨3, a, s, 0⟩) (b2 := ⟨2, sadd (sadd a s) m, s, 0⟩) HB.out (by simp [B.fin])).mono ?_
      rintro e ws12 ⟨rfl, hb, hu⟩
      have hsz12 := Lib.hid hu.size
      have HB2 := Lib.hid hb
      have HU2 := Lib.hid (HU.out.trans hu (fun _ h => .inl h))
      clear hb hu HB HU
      have HB := HB2
      have HU := HU2
      clear HB2 HU2
      go_wp2_with fail
      refine (ref_add (sadd (sadd a s) m) s _ HL.out HS.out).mono ?_
      rintro e w97 ⟨rfl, rfl⟩
      by_cases hq : sadd (sadd a s) m = sadd (sadd (sadd a s) m) s
      · have hq1 : (sadd (sadd a s) m == sadd (sadd (sadd a s) m) s) = true := by simpa using hq
        have HQ := Lib.hid hq
        clear hq
        go_wp2_with fail
        refine (since_any g _ _ HB.out).mono ?_
        rintro e w98 ⟨rfl, rfl⟩
        go_wp2_with fail
        refine (ask_to (n := 2) (b := ⟨2, sadd (sadd a s) m, s, 0⟩) (b2 := ⟨3, sadd (sadd a s) m, s, 0⟩) HB.out (by exact ⟨HL.out, HS.out⟩) (by simp [B.ask])).mono ?_
        rintro e ws13 ⟨rfl, hb, hu⟩
        have hsz13 := Lib.hid hu.size
        have HB2 := Lib.hid hb
        have HU2 := Lib.hid (HU.out.trans hu (fun _ h => .inl h))
        clear hb hu HB HU
        have HB := HB2
        have HU := HU2
        clear HB2 HU2
        go_wp2_with fail
        go_ret
        exact ⟨rfl, HU.out.below (by unfold At; omega)⟩
      · have hq1 : (sadd (sadd a s) m == sadd (sadd (sadd a s) m) s) = false := by simpa using hq
        have hq2 : ¬ (sadd (sadd (sadd a s) m) s ≤ sadd (sadd a s) m) := by omega
        clear hq
        go_wp2_with fail
        refine (ask_to (n := 3) (b := ⟨2, sadd (sadd a s) m, s, 0⟩) (b2 := ⟨2, sadd (sadd a s) m, s, 0⟩) HB.out (by exact ⟨HL.out, HS.out⟩) (by simp [B.ask, hq2])).mono ?_
        rintro e ws14 ⟨rfl, hb, hu⟩
        have hsz14 := Lib.hid hu.size
        have HB2 := Lib.hid hb
        have HU2 := Lib.hid (HU.out.trans hu (fun _ h => .inl h))
        clear hb hu HB HU
        have HB := HB2
        have HU := HU2
        clear HB2 HU2
        go_wp2_with fail
        refine (since_any g _ _ HB.out).mono ?_
        rintro e w99 ⟨rfl, rfl⟩
        go_wp2_with fail
        refine (ask_to (n := 2) (b := ⟨2, sadd (sadd a s) m, s, 0⟩) (b2 := ⟨3, sadd (sadd a s) m, s, 0⟩) HB.out (by exact ⟨HL.out, HS.out⟩) (by simp [B.ask])).mono ?_
        rintro e ws15 ⟨rfl, hb, hu⟩
        have hsz15 := Lib.hid hu.size
        have HB2 := Lib.hid hb
        have HU2 := Lib.hid (HU.out.trans hu (fun _ h => .inl h))
        clear hb hu HB HU
        have HB := HB2
        have HU := HU2
        clear HB2 HU2
        go_wp2_with fail
        go_ret
        exact ⟨rfl, HU.out.below (by unfold At; omega)⟩
    · skip
      go_wp2_with fail
      refine (fin_to (n := true) (b := ⟨3, a, s, 0⟩) (b2 := ⟨1, a, s, 0⟩) HB.out (by simp [B.fin])).mono ?_
      rintro e ws16 ⟨rfl, hb, hu⟩
      have hsz16 := Lib.hid hu.size
      have HB2 := Lib.hid hb
      have HU2 := Lib.hid (HU.out.trans hu (fun _ h => .inl h))
      clear hb hu HB HU
      have HB := HB2
      have HU := HU2
      clear HB2 HU2
      go_wp2_with fail
      refine (ref_add (sadd (sadd a s) m) s _ HL.out HS.out).mono ?_
      rintro e w100 ⟨rfl, rfl⟩
      go_wp2_with fail
      refine (ask_to (n := 1) (b := ⟨1, a, s, 0⟩) (b2 := ⟨1, a, s, 0⟩) HB.out (by exact ⟨HA.out, HS.out⟩) (by simp [B.ask])).mono ?_
      rintro e ws17 ⟨rfl, hb, hu⟩
      have hsz17 := Lib.hid hu.size
      have HB2 := Lib.hid hb
      have HU2 := Lib.hid (HU.out.trans hu (fun _ h => .inl h))
      clear hb hu HB HU
      have HB := HB2
      have HU := HU2
      clear HB2 HU2
      go_wp2_with fail
      refine (ask_to (n := 1) (b := ⟨1, a, s, 0⟩) (b2 := ⟨1, a, s, 0⟩) HB.out (by exact ⟨HA.out, HS.out⟩) (by simp [B.ask])).mono ?_
      rintro e ws18 ⟨rfl, hb, hu⟩
      have hsz18 := Lib.hid hu.size
      have HB2 := Lib.hid hb
      have HU2 := Lib.hid (HU.out.trans hu (fun _ h => .inl h))
      clear hb hu HB HU
      have HB := HB2
      have HU := HU2
      clear HB2 HU2
      go_wp2_with fail
      go_ret
      exact ⟨rfl, HU.out.below (by unfold At; omega)⟩

theorem arr3 {c : Array Value} (h0 : Oks [.int .u64, .int .u64, .int .u64] c.toList) : ∃ a s m : Int, c = #[.int .u64 a, .int .u64 s, .int .u64 m] ∧ ok64 a ∧ ok64 s ∧ ok64 m := by
  obtain ⟨c⟩ := c
  obtain ⟨v0, r0, e0, o0, h1⟩ := h0.cons
  obtain ⟨v1, r1, e1, o1, h2⟩ := h1.cons
  obtain ⟨v2, r2, e2, o2, h3⟩ := h2.cons
  have e3 := h3.nil
  obtain ⟨a, rfl, wa⟩ := o0
  obtain ⟨s, rfl, ws⟩ := o1
  obtain ⟨m, rfl, wm⟩ := o2
  simp only at e0
  refine ⟨a, s, m, by rw [e0, e1, e2, e3], bounds_u64 wa, bounds_u64 ws, bounds_u64 wm⟩
theorem sleeps_walk (c : Array Value) (hc : Oks [.int .u64, .int .u64, .int .u64] c.toList) (ok : Bool) (w : World) :
    Calls Try.prog 3 #[.agg c, .bool ok] w fun e w' => e = .returned (.bool true) ∧ Below w.heap.size w w' := by
  obtain ⟨a, s, m, rfl, ha, hs, hm⟩ := arr3 hc
  exact sleeps_any a s m ha hs hm ok w
end Go.Proofs.Ytmihigkkicgkdaa
