/- The breaker's other functions: what is made, and the document's. -/
import Derived.Test.YtmihigkkicgkdaaW
namespace Go.Proofs.Ytmihigkkicgkdaa
open Go.RowKit
set_option linter.unusedVariables false

set_option maxHeartbeats 400000 in
theorem new_any (v0 v1 v2 v3 v4 v5 v6 v7 v8 v9 v11 v12 v13 v14 : Value) (sleep force : Int) (w : World) :
    Calls Try.prog 10 #[.agg #[v0, v1, v2, v3, v4, v5, v6, v7, v8, v9, .int .u64 sleep, v11, v12, v13, v14, .int .i64 force]] w fun e w' => ∃ g, e = .returned (.pointer (some ⟨g, 0, none⟩)) ∧ IsB w' g ⟨1, 0, sleep, force⟩ ∧ w.heap.size ≤ g ∧ Below w.heap.size w w' := by
  go_enter Try.func10, Try.ntmps10
  go_wp2
  go_ret
  refine ⟨_, rfl, ?_, ?_, (by refine Upd.below0 ?_; repeat (first | exact Upd.refl _ _ | refine Upd.alloc ?_ _ | refine Upd.drew ?_ | refine Upd.drewN ?_ _))⟩
  · have h := Blk.new (w.alloc (.cells #[v0, v1, v2, v3, v4, v5, v6, v7, v8, v9, .int .u64 sleep, v11, v12, v13, v14, .int .i64 force] 28)) #[.int .i64 1, .int .u64 0, .int .u64 sleep, .int .i64 force] 54
    simp only [World.size_alloc] at h
    exact h
  · omega

set_option maxHeartbeats 400000 in
theorem refnew (v0 v1 v2 v3 v4 v5 v6 v7 v8 v9 v11 v12 v13 v14 : Value) (sleep force : Int) (w : World) :
    Calls Try.prog 17 #[.agg #[v0, v1, v2, v3, v4, v5, v6, v7, v8, v9, .int .u64 sleep, v11, v12, v13, v14, .int .i64 force]] w fun e w' => e = .returned (.agg (B.cells ⟨1, 0, sleep, force⟩)) ∧ Below w.heap.size w w' := by
  go_enter Try.func17, Try.ntmps17
  go_wp2
  refine bodyPost_ret (v := .agg #[.int .i64 1, .int .u64 0, .int .u64 sleep, .int .i64 force]) (by simp [results, Try.results17, go_sem]) rfl ⟨rfl, (by refine Upd.below0 ?_; repeat (first | exact Upd.refl _ _ | refine Upd.alloc ?_ _ | refine Upd.drew ?_ | refine Upd.drewN ?_ _))⟩

theorem conf_any (sleep : Int) (f : Int) (w : World) (h0 : 0 ≤ f) (h1 : f ≤ 2) :
    Calls Try.prog 11 #[.int .u64 sleep, .int .u8 f] w fun e w' => e = .returned (.agg #[.int .i64 0, .int .i64 0, .int .i64 0, .int .i64 0, .int .i64 0, .int .i64 0, .int .u64 0, .int .u64 0, .int .i64 0, .int .i64 0, .int .u64 sleep, .int .i64 0, .int .u64 0, .int .u64 0, .int .i64 0, .int .i64 f]) ∧ Below w.heap.size w w' := by
  have hm : f % 3 = f := by omega
  go_enter Try.func11, Try.ntmps11
  go_wp2
  refine bodyPost_ret (v := .agg #[.int .i64 0, .int .i64 0, .int .i64 0, .int .i64 0, .int .i64 0, .int .i64 0, .int .u64 0, .int .u64 0, .int .i64 0, .int .i64 0, .int .u64 sleep, .int .i64 0, .int .u64 0, .int .u64 0, .int .i64 0, .int .i64 f]) (by simp [results, Try.results11, go_sem]) rfl ⟨rfl, (by refine Upd.below0 ?_; repeat (first | exact Upd.refl _ _ | refine Upd.alloc ?_ _ | refine Upd.drew ?_ | refine Upd.drewN ?_ _))⟩

set_option maxHeartbeats 400000 in
theorem refask (b : B) (t : Int) (w : World) (hb : b.ok) :
    Calls Try.prog 24 #[.agg b.cells, .int .u64 t] w fun e w' => e = .returned (.tuple #[.agg (b.ask t).1.cells, .int .i64 (b.ask t).2]) ∧ Below w.heap.size w w' := by
  obtain ⟨s, u, p, q⟩ := b
  obtain ⟨hu, hp⟩ := hb
  simp only at hu hp
  have HU := Lib.hid hu
  have HP := Lib.hid hp
  clear hu hp
  show Calls Try.prog 24 #[.agg #[.int .i64 s, .int .u64 u, .int .u64 p, .int .i64 q], .int .u64 t] w _
  by_cases hq : q = 1
  · subst hq
    have k : B.ask ⟨s, u, p, 1⟩ t = (⟨s, u, p, 1⟩, 3) := by simp [B.ask]
    rw [k]
    go_enter Try.func24, Try.ntmps24
    go_wp2
    refine bodyPost_ret (v := .tuple #[.agg #[.int .i64 s, .int .u64 u, .int .u64 p, .int .i64 1], .int .i64 3]) (by simp [results, Try.results24, go_sem]) rfl ⟨rfl, (by refine Upd.below0 ?_; repeat (first | exact Upd.refl _ _ | refine Upd.alloc ?_ _ | refine Upd.drew ?_ | refine Upd.drewN ?_ _))⟩
  have eq1 : (q == 1) = false := by simpa using hq
  by_cases hq2 : q = 2
  · subst hq2
    have k : B.ask ⟨s, u, p, 2⟩ t = (⟨s, u, p, 2⟩, 1) := by simp [B.ask]
    rw [k]
    go_enter Try.func24, Try.ntmps24
    go_wp2
    refine bodyPost_ret (v := .tuple #[.agg #[.int .i64 s, .int .u64 u, .int .u64 p, .int .i64 2], .int .i64 1]) (by simp [results, Try.results24, go_sem]) rfl ⟨rfl, (by refine Upd.below0 ?_; repeat (first | exact Upd.refl _ _ | refine Upd.alloc ?_ _ | refine Upd.drew ?_ | refine Upd.drewN ?_ _))⟩
  have eq2 : (q == 2) = false := by simpa using hq2
  by_cases hs : s = 1
  · subst hs
    have k : B.ask ⟨1, u, p, q⟩ t = (⟨1, u, p, q⟩, 1) := by simp [B.ask, hq]
    rw [k]
    clear hq hq2
    go_enter Try.func24, Try.ntmps24
    go_wp2
    refine bodyPost_ret (v := .tuple #[.agg #[.int .i64 1, .int .u64 u, .int .u64 p, .int .i64 q], .int .i64 1]) (by simp [results, Try.results24, go_sem]) rfl ⟨rfl, (by refine Upd.below0 ?_; repeat (first | exact Upd.refl _ _ | refine Upd.alloc ?_ _ | refine Upd.drew ?_ | refine Upd.drewN ?_ _))⟩
  have es : (s == 1) = false := by simpa using hs
  by_cases hs2 : s = 2
  · subst hs2
    by_cases ht : sadd u p ≤ t
    · have k : B.ask ⟨2, u, p, q⟩ t = (⟨3, u, p, q⟩, 2) := by simp [B.ask, hq, hq2, ht]
      rw [k]
      clear hq hq2 hs
      have ht2 : decide (t ≥ sadd u p) = true := by simpa using ht
      go_enter Try.func24, Try.ntmps24
      go_wp2_with (go_at_call 13; refine (ref_add _ _ _ HU.out HP.out).mono ?_; rintro e w' ⟨rfl, rfl⟩)
      refine bodyPost_ret (v := .tuple #[.agg #[.int .i64 3, .int .u64 u, .int .u64 p, .int .i64 q], .int .i64 2]) (by simp [results, Try.results24, go_sem]) rfl ⟨rfl, (by refine Upd.below0 ?_; repeat (first | exact Upd.refl _ _ | refine Upd.alloc ?_ _ | refine Upd.drew ?_ | refine Upd.drewN ?_ _))⟩
    · have k : B.ask ⟨2, u, p, q⟩ t = (⟨2, u, p, q⟩, 3) := by simp [B.ask, hq, hq2, ht]
      rw [k]
      clear hq hq2 hs
      have ht2 : decide (t ≥ sadd u p) = false := by simpa using ht
      go_enter Try.func24, Try.ntmps24
      go_wp2_with (go_at_call 13; refine (ref_add _ _ _ HU.out HP.out).mono ?_; rintro e w' ⟨rfl, rfl⟩)
      refine bodyPost_ret (v := .tuple #[.agg #[.int .i64 2, .int .u64 u, .int .u64 p, .int .i64 q], .int .i64 3]) (by simp [results, Try.results24, go_sem]) rfl ⟨rfl, (by refine Upd.below0 ?_; repeat (first | exact Upd.refl _ _ | refine Upd.alloc ?_ _ | refine Upd.drew ?_ | refine Upd.drewN ?_ _))⟩
  · have es2 : (s == 2) = false := by simpa using hs2
    have k : B.ask ⟨s, u, p, q⟩ t = (⟨s, u, p, q⟩, 3) := by simp [B.ask, hq, hq2, hs, hs2]
    rw [k]
    clear hq hq2 hs hs2
    go_enter Try.func24, Try.ntmps24
    go_wp2
    refine bodyPost_ret (v := .tuple #[.agg #[.int .i64 s, .int .u64 u, .int .u64 p, .int .i64 q], .int .i64 3]) (by simp [results, Try.results24, go_sem]) rfl ⟨rfl, (by refine Upd.below0 ?_; repeat (first | exact Upd.refl _ _ | refine Upd.alloc ?_ _ | refine Upd.drew ?_ | refine Upd.drewN ?_ _))⟩

set_option maxHeartbeats 400000 in
theorem reftrip (b : B) (t : Int) (w : World) :
    Calls Try.prog 25 #[.agg b.cells, .int .u64 t] w fun e w' => e = .returned (.tuple #[.agg (b.trip t).1.cells, .bool (b.trip t).2]) ∧ Below w.heap.size w w' := by
  obtain ⟨s, u, p, q⟩ := b
  show Calls Try.prog 25 #[.agg #[.int .i64 s, .int .u64 u, .int .u64 p, .int .i64 q], .int .u64 t] w _
  by_cases hs : s = 1
  · subst hs
    by_cases hq : q = 0
    · subst hq
      go_enter Try.func25, Try.ntmps25
      go_wp2
      refine bodyPost_ret (v := .tuple #[.agg #[.int .i64 2, .int .u64 t, .int .u64 p, .int .i64 0], .bool true]) (by simp [results, Try.results25, go_sem]) rfl ⟨rfl, (by refine Upd.below0 ?_; repeat (first | exact Upd.refl _ _ | refine Upd.alloc ?_ _ | refine Upd.drew ?_ | refine Upd.drewN ?_ _))⟩
    · have e : (q == 0) = false := by simpa using hq
      have e2 : (q != 0) = true := by simpa using hq
      have k : B.trip ⟨1, u, p, q⟩ t = (⟨1, u, p, q⟩, false) := by simp [B.trip, hq]
      rw [k]
      go_enter Try.func25, Try.ntmps25
      go_wp2
      refine bodyPost_ret (v := .tuple #[.agg #[.int .i64 1, .int .u64 u, .int .u64 p, .int .i64 q], .bool false]) (by simp [results, Try.results25, go_sem]) rfl ⟨rfl, (by refine Upd.below0 ?_; repeat (first | exact Upd.refl _ _ | refine Upd.alloc ?_ _ | refine Upd.drew ?_ | refine Upd.drewN ?_ _))⟩
  · have e : (s == 1) = false := by simpa using hs
    have e2 : (s != 1) = true := by simpa using hs
    have k : B.trip ⟨s, u, p, q⟩ t = (⟨s, u, p, q⟩, false) := by simp [B.trip, hs]
    rw [k]
    go_enter Try.func25, Try.ntmps25
    go_wp2
    refine bodyPost_ret (v := .tuple #[.agg #[.int .i64 s, .int .u64 u, .int .u64 p, .int .i64 q], .bool false]) (by simp [results, Try.results25, go_sem]) rfl ⟨rfl, (by refine Upd.below0 ?_; repeat (first | exact Upd.refl _ _ | refine Upd.alloc ?_ _ | refine Upd.drew ?_ | refine Upd.drewN ?_ _))⟩

set_option maxHeartbeats 400000 in
theorem reffin (b : B) (t : Int) (ok : Bool) (w : World) :
    Calls Try.prog 26 #[.agg b.cells, .int .u64 t, .bool ok] w fun e w' => e = .returned (.tuple #[.agg (b.fin t ok).1.cells, .bool (b.fin t ok).2]) ∧ Below w.heap.size w w' := by
  obtain ⟨s, u, p, q⟩ := b
  show Calls Try.prog 26 #[.agg #[.int .i64 s, .int .u64 u, .int .u64 p, .int .i64 q], .int .u64 t, .bool ok] w _
  by_cases hs : s = 3
  · subst hs
    cases ok
    · go_enter Try.func26, Try.ntmps26
      go_wp2
      refine bodyPost_ret (v := .tuple #[.agg #[.int .i64 2, .int .u64 t, .int .u64 p, .int .i64 q], .bool true]) (by simp [results, Try.results26, go_sem]) rfl ⟨rfl, (by refine Upd.below0 ?_; repeat (first | exact Upd.refl _ _ | refine Upd.alloc ?_ _ | refine Upd.drew ?_ | refine Upd.drewN ?_ _))⟩
    · go_enter Try.func26, Try.ntmps26
      go_wp2
      refine bodyPost_ret (v := .tuple #[.agg #[.int .i64 1, .int .u64 u, .int .u64 p, .int .i64 q], .bool true]) (by simp [results, Try.results26, go_sem]) rfl ⟨rfl, (by refine Upd.below0 ?_; repeat (first | exact Upd.refl _ _ | refine Upd.alloc ?_ _ | refine Upd.drew ?_ | refine Upd.drewN ?_ _))⟩
  · have e : (s == 3) = false := by simpa using hs
    have e2 : (s != 3) = true := by simpa using hs
    have k : B.fin ⟨s, u, p, q⟩ t ok = (⟨s, u, p, q⟩, false) := by simp [B.fin, hs]
    rw [k]
    go_enter Try.func26, Try.ntmps26
    go_wp2
    refine bodyPost_ret (v := .tuple #[.agg #[.int .i64 s, .int .u64 u, .int .u64 p, .int .i64 q], .bool false]) (by simp [results, Try.results26, go_sem]) rfl ⟨rfl, (by refine Upd.below0 ?_; repeat (first | exact Upd.refl _ _ | refine Upd.alloc ?_ _ | refine Upd.drew ?_ | refine Upd.drewN ?_ _))⟩

set_option maxHeartbeats 400000 in
theorem refback (b : B) (w : World) :
    Calls Try.prog 27 #[.agg b.cells] w fun e w' => e = .returned (.tuple #[.agg b.back.1.cells, .bool b.back.2]) ∧ Below w.heap.size w w' := by
  obtain ⟨s, u, p, q⟩ := b
  show Calls Try.prog 27 #[.agg #[.int .i64 s, .int .u64 u, .int .u64 p, .int .i64 q]] w _
  by_cases hs : s = 3
  · subst hs
    go_enter Try.func27, Try.ntmps27
    go_wp2
    refine bodyPost_ret (v := .tuple #[.agg #[.int .i64 2, .int .u64 u, .int .u64 p, .int .i64 q], .bool true]) (by simp [results, Try.results27, go_sem]) rfl ⟨rfl, (by refine Upd.below0 ?_; repeat (first | exact Upd.refl _ _ | refine Upd.alloc ?_ _ | refine Upd.drew ?_ | refine Upd.drewN ?_ _))⟩
  · have e : (s == 3) = false := by simpa using hs
    have e2 : (s != 3) = true := by simpa using hs
    have k : B.back ⟨s, u, p, q⟩ = (⟨s, u, p, q⟩, false) := by simp [B.back, hs]
    rw [k]
    go_enter Try.func27, Try.ntmps27
    go_wp2
    refine bodyPost_ret (v := .tuple #[.agg #[.int .i64 s, .int .u64 u, .int .u64 p, .int .i64 q], .bool false]) (by simp [results, Try.results27, go_sem]) rfl ⟨rfl, (by refine Upd.below0 ?_; repeat (first | exact Upd.refl _ _ | refine Upd.alloc ?_ _ | refine Upd.drew ?_ | refine Upd.drewN ?_ _))⟩

/-- A deed: 1 ask, 2 trip, 3 done, else back. -/
def B.act (b : B) (k t : Int) (ok : Bool) : B :=
  if k = 1 then (b.ask t).1 else if k = 2 then (b.trip t).1 else if k = 3 then (b.fin t ok).1 else b.back.1

end Go.Proofs.Ytmihigkkicgkdaa
