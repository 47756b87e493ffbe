/- awake: a breaker that is tripped at 5, and asleep for 10. -/
import Derived.Test.YtmihigkkicgkdaaD
namespace Go.Proofs.Ytmihigkkicgkdaa
open Go.RowKit
set_option linter.unusedVariables false
set_option linter.unusedSimpArgs false

theorem ask_to {g : Nat} {b b2 : B} {t n : Int} {w : World} (h : IsB w g b) (hb : b.ok) (hk : b.ask t = (b2, n)) :
    Calls Try.prog 14 #[.pointer (some ⟨g, 0, none⟩), .int .u64 t] w fun e w' => e = .returned (.int .i64 n) ∧ IsB w' g b2 ∧ Upd (At g) w w' := by
  have := ask_any g b t w h hb
  rwa [hk] at this
theorem trip_to {g : Nat} {b b2 : B} {t : Int} {n : Bool} {w : World} (h : IsB w g b) (hk : b.trip t = (b2, n)) :
    Calls Try.prog 12 #[.pointer (some ⟨g, 0, none⟩), .int .u64 t] w fun e w' => e = .returned (.bool n) ∧ IsB w' g b2 ∧ Upd (At g) w w' := by
  have := trip_any g b t w h
  rwa [hk] at this
theorem fin_to {g : Nat} {b b2 : B} {t : Int} {ok n : Bool} {w : World} (h : IsB w g b) (hk : b.fin t ok = (b2, n)) :
    Calls Try.prog 15 #[.pointer (some ⟨g, 0, none⟩), .int .u64 t, .bool ok] w fun e w' => e = .returned (.bool n) ∧ IsB w' g b2 ∧ Upd (At g) w w' := by
  have := fin_any g b t ok w h
  rwa [hk] at this
theorem back_to {g : Nat} {b b2 : B} {n : Bool} {w : World} (h : IsB w g b) (hk : b.back = (b2, n)) :
    Calls Try.prog 21 #[.pointer (some ⟨g, 0, none⟩)] w fun e w' => e = .returned (.bool n) ∧ IsB w' g b2 ∧ Upd (At g) w w' := by
  have := back_any g b w h
  rwa [hk] at this

set_option maxHeartbeats 2000000 in
theorem awake_any (w : World) : Calls Try.prog 9 #[] w fun e w' => e = .returned (.bool true) ∧ Below w.heap.size w w' := by
  go_enter Try.func9, Try.ntmps9
  go_wp2_with fail
  refine (new_any _ _ _ _ _ _ _ _ _ _ _ _ _ _ 10 0 _).mono ?_
  rintro e w0 ⟨g, rfl, hb, hg, hd⟩
  have HB0 := Lib.hid hb
  have HU0 := Lib.hid (Upd.of_below hd (At g))
  clear hb hd
  go_wp2_with fail
  refine (ask_to (n := 1) (b := ⟨1, 0, 10, 0⟩) (b2 := ⟨1, 0, 10, 0⟩) HB0.out (by simp [B.ok, ok64, top]) (by simp [B.ask, sadd, top])).mono ?_
  rintro e w1 ⟨rfl, hb, hu⟩
  have HB1 := Lib.hid hb
  have HU1 := Lib.hid (HU0.out.trans hu (fun _ h => .inl h))
  clear hb hu HB0 HU0
  go_wp2_with fail
  refine (trip_to (n := true) (b := ⟨1, 0, 10, 0⟩) (b2 := ⟨2, 5, 10, 0⟩) HB1.out (by simp [B.trip, sadd, top])).mono ?_
  rintro e w2 ⟨rfl, hb, hu⟩
  have HB2 := Lib.hid hb
  have HU2 := Lib.hid (HU1.out.trans hu (fun _ h => .inl h))
  clear hb hu HB1 HU1
  go_wp2_with fail
  refine (ask_to (n := 3) (b := ⟨2, 5, 10, 0⟩) (b2 := ⟨2, 5, 10, 0⟩) HB2.out (by simp [B.ok, ok64, top]) (by simp [B.ask, sadd, top])).mono ?_
  rintro e w3 ⟨rfl, hb, hu⟩
  have HB3 := Lib.hid hb
  have HU3 := Lib.hid (HU2.out.trans hu (fun _ h => .inl h))
  clear hb hu HB2 HU2
  go_wp2_with fail
  refine (ask_to (n := 2) (b := ⟨2, 5, 10, 0⟩) (b2 := ⟨3, 5, 10, 0⟩) HB3.out (by simp [B.ok, ok64, top]) (by simp [B.ask, sadd, top])).mono ?_
  rintro e w4 ⟨rfl, hb, hu⟩
  have HB4 := Lib.hid hb
  have HU4 := Lib.hid (HU3.out.trans hu (fun _ h => .inl h))
  clear hb hu HB3 HU3
  go_wp2_with fail
  refine (ask_to (n := 3) (b := ⟨3, 5, 10, 0⟩) (b2 := ⟨3, 5, 10, 0⟩) HB4.out (by simp [B.ok, ok64, top]) (by simp [B.ask, sadd, top])).mono ?_
  rintro e w5 ⟨rfl, hb, hu⟩
  have HB5 := Lib.hid hb
  have HU5 := Lib.hid (HU4.out.trans hu (fun _ h => .inl h))
  clear hb hu HB4 HU4
  go_wp2_with fail
  refine (state_any g ⟨3, 5, 10, 0⟩ _ HB5.out).mono ?_
  rintro e w6 ⟨rfl, rfl⟩
  have HB6 := HB5
  have HU6 := HU5
  clear HB5 HU5
  go_wp2_with fail
  refine (fin_to (n := true) (b := ⟨3, 5, 10, 0⟩) (b2 := ⟨2, 20, 10, 0⟩) HB6.out (by simp [B.fin, sadd, top])).mono ?_
  rintro e w7 ⟨rfl, hb, hu⟩
  have HB7 := Lib.hid hb
  have HU7 := Lib.hid (HU6.out.trans hu (fun _ h => .inl h))
  clear hb hu HB6 HU6
  go_wp2_with fail
  refine (state_any g ⟨2, 20, 10, 0⟩ _ HB7.out).mono ?_
  rintro e w8 ⟨rfl, rfl⟩
  have HB8 := HB7
  have HU8 := HU7
  clear HB7 HU7
  go_wp2_with fail
  refine (since_any g ⟨2, 20, 10, 0⟩ _ HB8.out).mono ?_
  rintro e w9 ⟨rfl, rfl⟩
  have HB9 := HB8
  have HU9 := HU8
  clear HB8 HU8
  go_wp2_with fail
  refine (ask_to (n := 2) (b := ⟨2, 20, 10, 0⟩) (b2 := ⟨3, 20, 10, 0⟩) HB9.out (by simp [B.ok, ok64, top]) (by simp [B.ask, sadd, top])).mono ?_
  rintro e w10 ⟨rfl, hb, hu⟩
  have HB10 := Lib.hid hb
  have HU10 := Lib.hid (HU9.out.trans hu (fun _ h => .inl h))
  clear hb hu HB9 HU9
  go_wp2_with fail
  refine (fin_to (n := true) (b := ⟨3, 20, 10, 0⟩) (b2 := ⟨1, 20, 10, 0⟩) HB10.out (by simp [B.fin, sadd, top])).mono ?_
  rintro e w11 ⟨rfl, hb, hu⟩
  have HB11 := Lib.hid hb
  have HU11 := Lib.hid (HU10.out.trans hu (fun _ h => .inl h))
  clear hb hu HB10 HU10
  go_wp2_with fail
  refine (state_any g ⟨1, 20, 10, 0⟩ _ HB11.out).mono ?_
  rintro e w12 ⟨rfl, rfl⟩
  have HB12 := HB11
  have HU12 := HU11
  clear HB11 HU11
  go_wp2_with fail
  go_ret
  exact ⟨rfl, HU12.out.below (by unfold At; omega)⟩
end Go.Proofs.Ytmihigkkicgkdaa
