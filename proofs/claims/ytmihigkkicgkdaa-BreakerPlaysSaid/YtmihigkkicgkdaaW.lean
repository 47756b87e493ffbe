/- The breaker's methods: what each leaves and tells. -/
import Derived.Test.YtmihigkkicgkdaaProg
import Derived.Test.YtmihigkkicgkdaaX
import Derived.WalkSpells
import Derived.KernelRfl
import Derived.Outline
import Derived.Deep.QuietTactic
import Derived.BigQuiet
import Derived.WalkLawsBesides
import Derived.Lib.Hide
namespace Go.Proofs.Ytmihigkkicgkdaa
open Go.RowKit
set_option linter.unusedVariables false

/-- The greatest number. -/
def top : Int := 18446744073709551615
/-- Of two numbers what there is of them, at most the greatest. -/
def sadd (a b : Int) : Int := if top - b < a then top else a + b
def ok64 (a : Int) : Prop := 0 ≤ a ∧ a ≤ top
theorem sadd_ok {a b : Int} (ha : ok64 a) (hb : ok64 b) : ok64 (sadd a b) := by
  unfold sadd ok64 top at *; split <;> omega
theorem sadd_min {a b : Int} : a + min b (top - a) = sadd a b := by
  unfold sadd; split <;> omega
theorem ret_u {a b : Int} (h : a = b) : Ending.returned (.int .u64 a) = .returned (.int .u64 b) := by rw [h]
theorem ret_i {a b : Int} (h : a = b) : Ending.returned (.int .i64 a) = .returned (.int .i64 b) := by rw [h]
theorem ret_b {a b : Bool} (h : a = b) : Ending.returned (.bool a) = .returned (.bool b) := by rw [h]

set_option maxHeartbeats 400000 in
theorem sat_add (a b : Int) (w : World) (ha : ok64 a) (hb : ok64 b) :
    Calls Try.prog 23 #[.int .u64 a, .int .u64 b] w fun e w' => e = .returned (.int .u64 (sadd a b)) ∧ w = w' := by
  obtain ⟨a0, a1⟩ := ha
  obtain ⟨b0, b1⟩ := hb
  unfold sadd
  unfold top at *
  go_enter Try.func23, Try.ntmps23
  go_wp2
  all_goals
    go_ret
    exact ⟨ret_u (by first | omega | (split <;> omega)), rfl⟩

set_option maxHeartbeats 400000 in
theorem ref_add (a b : Int) (w : World) (ha : ok64 a) (hb : ok64 b) :
    Calls Try.prog 13 #[.int .u64 a, .int .u64 b] w fun e w' => e = .returned (.int .u64 (sadd a b)) ∧ w = w' := by
  obtain ⟨a0, a1⟩ := ha
  obtain ⟨b0, b1⟩ := hb
  unfold sadd
  unfold top at *
  go_enter Try.func13, Try.ntmps13
  go_wp2
  all_goals
    go_ret
    exact ⟨ret_u (by first | rfl | (split <;> omega)), rfl⟩

/-- A breaker. -/
structure B where
  st : Int
  since : Int
  sleep : Int
  force : Int
def B.cells (b : B) : Array Value := #[.int .i64 b.st, .int .u64 b.since, .int .u64 b.sleep, .int .i64 b.force]
def B.ok (b : B) : Prop := ok64 b.since ∧ ok64 b.sleep
def B.ask (b : B) (now : Int) : B × Int :=
  if b.force = 1 then (b, 3) else if b.force = 2 ∨ b.st = 1 then (b, 1) else if b.st = 2 ∧ sadd b.since b.sleep ≤ now then ({ b with st := 3 }, 2) else (b, 3)
def B.trip (b : B) (now : Int) : B × Bool := if b.st = 1 ∧ b.force = 0 then ({ b with st := 2, since := now }, true) else (b, false)
def B.fin (b : B) (now : Int) (ok : Bool) : B × Bool := if b.st = 3 then (if ok then { b with st := 1 } else { b with st := 2, since := now }, true) else (b, false)
def B.back (b : B) : B × Bool := if b.st = 3 then ({ b with st := 2 }, true) else (b, false)
/-- The block g is a breaker. -/
def IsB (w : World) (g : Nat) (b : B) : Prop := Blk w g 54 b.cells

theorem cells_of {w : World} {g : Nat} {b : B} (h : IsB w g b) :
    (w.cell? ⟨g, 0, none⟩ = some (.int .i64 b.st) ∧ w.cell? ⟨g, 1, none⟩ = some (.int .u64 b.since) ∧ w.cell? ⟨g, 2, none⟩ = some (.int .u64 b.sleep) ∧ w.cell? ⟨g, 3, none⟩ = some (.int .i64 b.force)) ∧ ∀ i, w.frozen? ⟨g, i, none⟩ = false :=
  ⟨⟨h.cell 0, h.cell 1, h.cell 2, h.cell 3⟩, h.frz⟩

set_option maxHeartbeats 400000 in
theorem state_any (g : Nat) (b : B) (w : World) (h : IsB w g b) :
    Calls Try.prog 19 #[.pointer (some ⟨g, 0, none⟩)] w fun e w' => e = .returned (.int .i64 b.st) ∧ w = w' := by
  obtain ⟨⟨c0, c1, c2, c3⟩, f⟩ := cells_of h
  clear h
  go_enter Try.func19, Try.ntmps19
  go_wp2
  go_ret
  exact ⟨rfl, rfl⟩
theorem state_nil (w : World) : Calls Try.prog 19 #[.pointer none] w fun e w' => e = .returned (.int .i64 0) ∧ w = w' := by
  go_enter Try.func19, Try.ntmps19
  go_wp2
  go_ret
  exact ⟨rfl, rfl⟩
theorem since_any (g : Nat) (b : B) (w : World) (h : IsB w g b) :
    Calls Try.prog 16 #[.pointer (some ⟨g, 0, none⟩)] w fun e w' => e = .returned (.int .u64 b.since) ∧ w = w' := by
  obtain ⟨⟨c0, c1, c2, c3⟩, f⟩ := cells_of h
  clear h
  go_enter Try.func16, Try.ntmps16
  go_wp2
  go_ret
  exact ⟨rfl, rfl⟩
theorem since_nil (w : World) : Calls Try.prog 16 #[.pointer none] w fun e w' => e = .returned (.int .u64 0) ∧ w = w' := by
  go_enter Try.func16, Try.ntmps16
  go_wp2
  go_ret
  exact ⟨rfl, rfl⟩

set_option maxHeartbeats 400000 in
theorem trip_any (g : Nat) (b : B) (t : Int) (w : World) (h : IsB w g b) :
    Calls Try.prog 12 #[.pointer (some ⟨g, 0, none⟩), .int .u64 t] w fun e w' => e = .returned (.bool (b.trip t).2) ∧ IsB w' g (b.trip t).1 ∧ Upd (At g) w w' := by
  obtain ⟨⟨c0, c1, c2, c3⟩, f⟩ := cells_of h
  have H := Lib.hid h
  clear h
  obtain ⟨s, u, p, q⟩ := b
  simp only at c0 c1 c2 c3
  by_cases hs : s = 1
  · subst hs
    by_cases hq : q = 0
    · subst hq
      go_enter Try.func12, Try.ntmps12
      go_wp2
      go_end0
      go_wp2
      go_ret
      exact ⟨rfl, ((H.out.set 0 (.int .i64 2)).set 1 (.int .u64 t)), ((Upd.refl _ _).put _ _).put _ _⟩
    · have e : (q == 0) = false := by simpa using hq
      have e2 : (q != 0) = true := by simpa using hq
      have k : B.trip ⟨1, u, p, q⟩ t = (⟨1, u, p, q⟩, false) := by simp [B.trip, hq]
      rw [k]
      go_enter Try.func12, Try.ntmps12
      go_wp2
      go_ret
      exact ⟨rfl, H.out, Upd.refl _ _⟩
  · have e : (s == 1) = false := by simpa using hs
    have e2 : (s != 1) = true := by simpa using hs
    have k : B.trip ⟨s, u, p, q⟩ t = (⟨s, u, p, q⟩, false) := by simp [B.trip, hs]
    rw [k]
    go_enter Try.func12, Try.ntmps12
    go_wp2
    go_ret
    exact ⟨rfl, H.out, Upd.refl _ _⟩
theorem trip_nil (t : Int) (w : World) : Calls Try.prog 12 #[.pointer none, .int .u64 t] w fun e w' => e = .returned (.bool false) ∧ w = w' := by
  go_enter Try.func12, Try.ntmps12
  go_wp2
  go_ret
  exact ⟨rfl, rfl⟩

set_option maxHeartbeats 400000 in
theorem back_any (g : Nat) (b : B) (w : World) (h : IsB w g b) :
    Calls Try.prog 21 #[.pointer (some ⟨g, 0, none⟩)] w fun e w' => e = .returned (.bool b.back.2) ∧ IsB w' g b.back.1 ∧ Upd (At g) w w' := by
  obtain ⟨⟨c0, c1, c2, c3⟩, f⟩ := cells_of h
  have H := Lib.hid h
  clear h
  obtain ⟨s, u, p, q⟩ := b
  simp only at c0 c1 c2 c3
  by_cases hs : s = 3
  · subst hs
    go_enter Try.func21, Try.ntmps21
    go_wp2
    go_ret
    exact ⟨rfl, H.out.set 0 (.int .i64 2), (Upd.refl _ _).put _ _⟩
  · have e : (s == 3) = false := by simpa using hs
    have e2 : (s != 3) = true := by simpa using hs
    have k : B.back ⟨s, u, p, q⟩ = (⟨s, u, p, q⟩, false) := by simp [B.back, hs]
    rw [k]
    go_enter Try.func21, Try.ntmps21
    go_wp2
    go_ret
    exact ⟨rfl, H.out, Upd.refl _ _⟩
theorem back_nil (w : World) : Calls Try.prog 21 #[.pointer none] w fun e w' => e = .returned (.bool false) ∧ w = w' := by
  go_enter Try.func21, Try.ntmps21
  go_wp2
  go_ret
  exact ⟨rfl, rfl⟩

set_option maxHeartbeats 400000 in
theorem fin_any (g : Nat) (b : B) (t : Int) (ok : Bool) (w : World) (h : IsB w g b) :
    Calls Try.prog 15 #[.pointer (some ⟨g, 0, none⟩), .int .u64 t, .bool ok] w fun e w' => e = .returned (.bool (b.fin t ok).2) ∧ IsB w' g (b.fin t ok).1 ∧ Upd (At g) w w' := by
  obtain ⟨⟨c0, c1, c2, c3⟩, f⟩ := cells_of h
  have H := Lib.hid h
  clear h
  obtain ⟨s, u, p, q⟩ := b
  simp only at c0 c1 c2 c3
  by_cases hs : s = 3
  · subst hs
    cases ok
    · go_enter Try.func15, Try.ntmps15
      go_wp2
      go_end0
      go_wp2
      go_ret
      exact ⟨rfl, (H.out.set 0 (.int .i64 2)).set 1 (.int .u64 t), ((Upd.refl _ _).put _ _).put _ _⟩
    · go_enter Try.func15, Try.ntmps15
      go_wp2
      go_ret
      exact ⟨rfl, H.out.set 0 (.int .i64 1), (Upd.refl _ _).put _ _⟩
  · have e : (s == 3) = false := by simpa using hs
    have e2 : (s != 3) = true := by simpa using hs
    have k : B.fin ⟨s, u, p, q⟩ t ok = (⟨s, u, p, q⟩, false) := by simp [B.fin, hs]
    rw [k]
    go_enter Try.func15, Try.ntmps15
    go_wp2
    go_ret
    exact ⟨rfl, H.out, Upd.refl _ _⟩
theorem fin_nil (t : Int) (ok : Bool) (w : World) : Calls Try.prog 15 #[.pointer none, .int .u64 t, .bool ok] w fun e w' => e = .returned (.bool false) ∧ w = w' := by
  go_enter Try.func15, Try.ntmps15
  go_wp2
  go_ret
  exact ⟨rfl, rfl⟩
theorem ask_nil (t : Int) (w : World) : Calls Try.prog 14 #[.pointer none, .int .u64 t] w fun e w' => e = .returned (.int .i64 3) ∧ w = w' := by
  go_enter Try.func14, Try.ntmps14
  go_wp2
  go_ret
  exact ⟨rfl, rfl⟩

set_option maxHeartbeats 1000000 in
theorem ask_any (g : Nat) (b : B) (t : Int) (w : World) (h : IsB w g b) (hb : b.ok) :
    Calls Try.prog 14 #[.pointer (some ⟨g, 0, none⟩), .int .u64 t] w fun e w' => e = .returned (.int .i64 (b.ask t).2) ∧ IsB w' g (b.ask t).1 ∧ Upd (At g) w w' := by
  obtain ⟨⟨c0, c1, c2, c3⟩, f⟩ := cells_of h
  have H := Lib.hid h
  clear h
  obtain ⟨s, u, p, q⟩ := b
  obtain ⟨hu, hp⟩ := hb
  simp only at c0 c1 c2 c3 hu hp
  have HU := Lib.hid hu
  have HP := Lib.hid hp
  clear hu hp
  by_cases hq : q = 1
  · subst hq
    have k : B.ask ⟨s, u, p, 1⟩ t = (⟨s, u, p, 1⟩, 3) := by simp [B.ask]
    rw [k]
    go_enter Try.func14, Try.ntmps14
    go_wp2
    go_ret
    exact ⟨rfl, H.out, Upd.refl _ _⟩
  have eq1 : (q == 1) = false := by simpa using hq
  by_cases hq2 : q = 2
  · subst hq2
    have k : B.ask ⟨s, u, p, 2⟩ t = (⟨s, u, p, 2⟩, 1) := by simp [B.ask]
    rw [k]
    go_enter Try.func14, Try.ntmps14
    go_wp2
    go_ret
    exact ⟨rfl, H.out, Upd.refl _ _⟩
  have eq2 : (q == 2) = false := by simpa using hq2
  by_cases hs : s = 1
  · subst hs
    have k : B.ask ⟨1, u, p, q⟩ t = (⟨1, u, p, q⟩, 1) := by simp [B.ask, hq]
    rw [k]
    clear hq hq2
    go_enter Try.func14, Try.ntmps14
    go_wp2
    go_ret
    exact ⟨rfl, H.out, Upd.refl _ _⟩
  have es : (s == 1) = false := by simpa using hs
  by_cases hs2 : s = 2
  · subst hs2
    by_cases ht : sadd u p ≤ t
    · have k : B.ask ⟨2, u, p, q⟩ t = (⟨3, u, p, q⟩, 2) := by simp [B.ask, hq, hq2, ht]
      rw [k]
      clear hq hq2 hs
      have ht2 : decide (t ≥ sadd u p) = true := by simpa using ht
      go_enter Try.func14, Try.ntmps14
      go_wp2
      go_quiet ((go_at_call 23; exact Calls.quiet_of_same ((sat_add _ _ _ HU.out HP.out).mono fun e w' ⟨h1, h2⟩ => ⟨h1, h2.symm⟩)))
      go_wp2
      go_ret
      exact ⟨rfl, (H.out.drewN _).set 0 (.int .i64 3), ((Upd.refl _ _).drewN _).put _ _⟩
    · have k : B.ask ⟨2, u, p, q⟩ t = (⟨2, u, p, q⟩, 3) := by simp [B.ask, hq, hq2, ht]
      rw [k]
      clear hq hq2 hs
      have ht2 : decide (t ≥ sadd u p) = false := by simpa using ht
      go_enter Try.func14, Try.ntmps14
      go_wp2
      go_quiet ((go_at_call 23; exact Calls.quiet_of_same ((sat_add _ _ _ HU.out HP.out).mono fun e w' ⟨h1, h2⟩ => ⟨h1, h2.symm⟩)))
      go_wp2
      go_ret
      exact ⟨rfl, H.out.drewN _, (Upd.refl _ _).drewN _⟩
  · have es2 : (s == 2) = false := by simpa using hs2
    have k : B.ask ⟨s, u, p, q⟩ t = (⟨s, u, p, q⟩, 3) := by simp [B.ask, hq, hq2, hs, hs2]
    rw [k]
    clear hq hq2 hs hs2
    go_enter Try.func14, Try.ntmps14
    go_wp2
    go_quiet (fail)
    go_wp2
    go_ret
    exact ⟨rfl, H.out.drewN _, (Upd.refl _ _).drewN _⟩
end Go.Proofs.Ytmihigkkicgkdaa
