/- BatchLead's walk. -/
import Derived.Test.YtdfnhbhcgkdplaaPw
import Derived.Test.YtdfnhbhcgkdplaaSa
namespace Go.Proofs.Ytdfnhbhcgkdplaa
open Go.RowKit
set_option linter.unusedVariables false
set_option linter.unusedSimpArgs false

theorem ball_first (most : Int) (v : Int × Int) (vs : List (Int × Int)) : (ball most (v :: vs)).2.1[0]? = some (v.1, 0) ∧ (ball most (v :: vs)).2.2[0]? = some v ∧ 0 < (ball most (v :: vs)).1.length := by
  refine bfold_inv (P := fun s : BS => s.2.1[0]? = some (v.1, 0) ∧ s.2.2[0]? = some v ∧ 0 < s.1.length) (fun s x h => ?_) _ _ ⟨rfl, rfl, by simp⟩
  obtain ⟨h1, h2, h3⟩ := h
  rcases bstep_cases most s x with e | ⟨_, e⟩ | ⟨_, _, e⟩
  · rw [e]; exact ⟨h1, h2, h3⟩
  · rw [e]; exact ⟨get_snoc h1, get_snoc h2, h3⟩
  · rw [e]; exact ⟨get_snoc h1, get_snoc h2, by simp⟩
theorem lead_of {ms : List (Int × Int)} {m : Int × Int} (h : ms[0]? = some m) : lead ms = m.1 := by
  cases ms with
  | nil => simp at h
  | cons x ms => simp at h; subst h; rfl
theorem lead_tt {v : Value} {M : Option Addr} {d m : Nat} {ms : List (Int × Int)} {r : Int} (hm : ms.length = m) (hr : lead ms = r) (w : World) (hs : Sl w M m d (prs ms)) :
    Calls Try.prog 20 #[.agg #[v, .slice M m d]] w fun e w' => e = .returned (.int .i64 r) ∧ Below w.heap.size w w' := by
  subst hm hr
  exact lead_any v M d ms w hs

set_option maxHeartbeats 2000000 in
theorem blead_nil (L : Option Addr) (cap : Nat) (a : Int) (w : World) (hs : Sl w L 0 cap (prs [])) :
    Calls Try.prog 8 #[.slice L 0 cap, .int .u8 a] w fun e w' => e = .returned (.bool true) ∧ Below w.heap.size w w' := by
  have HS := Lib.hid hs
  clear hs
  go_enter Try.func8, Try.ntmps8
  go_wp2_with fail
  refine (awake_any _).mono ?_
  rintro e w0 ⟨rfl, hd0⟩
  have HU0 := Lib.hid (Upd.of_below hd0 (fun _ => False))
  clear hd0
  go_wp2_with fail
  refine (all_any L 0 cap [] rfl (by omega) _ _ (HS.out.upd0 HU0.out)).mono ?_
  rintro e w1 ⟨A, c, M, d, T, tc, n, m, t, rfl, ha, hb, ht, hn, hmm, htt, hd⟩
  simp only [ball, List.length_nil] at hn hmm htt
  subst hn hmm htt
  have HB := Lib.hid hb
  have HU1 := Lib.hid (HU0.out.trans (Upd.of_below hd (fun _ => False)) (fun _ h => h.elim))
  clear ha hb ht hd
  go_wp2_with fail
  refine (lead_tt (ms := []) (r := 0) rfl rfl _ (HB.out.alloc _)).mono ?_
  rintro e w2 ⟨rfl, hd⟩
  have bb := (Blk.new w1 #[.slice A 0 c, .slice M 0 d] 31).upd (Upd.of_below hd (fun _ => False)) (fun h => h)
  have cb := bb.cell
  have BB := Lib.hid bb
  have HU2 := Lib.hid ((HU1.out.alloc _).trans (Upd.of_below hd (fun _ => False)) (fun _ h => h.elim))
  clear bb hd
  go_wp2_with fail
  refine (full_to (f := true) (by decide) (by omega) _).mono ?_
  rintro e w3 ⟨rfl, hd⟩
  have bb := BB.out.upd (Upd.of_below hd (fun _ => False)) (fun h => h)
  have cb3 := bb.cell
  have HU3 := Lib.hid (HU2.out.trans (Upd.of_below hd (fun _ => False)) (fun _ h => h.elim))
  clear bb hd cb
  go_wp2_with fail
  refine (full_to (f := false) (by decide) (by omega) _).mono ?_
  rintro e w4 ⟨rfl, hd⟩
  have HU4 := Lib.hid (HU3.out.trans (Upd.of_below hd (fun _ => False)) (fun _ h => h.elim))
  clear hd cb3
  go_wp2
  go_ret
  exact ⟨rfl, HU4.out.below0⟩

set_option maxHeartbeats 2000000 in
theorem blead_cons (L : Option Addr) (len cap : Nat) (v : Int × Int) (vs : List (Int × Int)) (hl : vs.length + 1 = len) (hm : len ≤ 9223372036854775807) (a : Int) (w : World) (hs : Sl w L len cap (prs (v :: vs))) :
    Calls Try.prog 8 #[.slice L len cap, .int .u8 a] w fun e w' => e = .returned (.bool true) ∧ Below w.heap.size w w' := by
  have HS := Lib.hid hs
  have HL := Lib.hid hl
  obtain ⟨lb, lo, rfl, hlb, l0, l1⟩ := hs.pr (i := 0) (m := v) rfl
  simp only [Nat.zero_mul, Nat.add_zero] at l0 l1
  have hne : ¬ (len : Int) = 0 := by omega
  have hpos : (0 : Int) < (len : Int) := by omega
  have hpos' : 0 < len := by omega
  clear hs hl
  go_enter Try.func8, Try.ntmps8
  go_wp2_with fail
  refine (awake_any _).mono ?_
  rintro e w0 ⟨rfl, hd0⟩
  have HU0 := Lib.hid (Upd.of_below hd0 (fun _ => False))
  clear hd0
  go_wp2_with fail
  refine (all_any _ len cap (v :: vs) HL.out hm _ _ (HS.out.upd0 HU0.out)).mono ?_
  rintro e w1 ⟨A, c, M, d, T, tc, n, m, t, rfl, ha, hb, ht, hn, hmm, htt, hd⟩
  obtain ⟨f1, f2, f3⟩ := ball_first _ v vs
  have HB := Lib.hid hb
  have HM := Lib.hid hmm
  have HF := Lib.hid (lead_of f1)
  have HU1 := Lib.hid (HU0.out.trans (Upd.of_below hd (fun _ => False)) (fun _ h => h.elim))
  obtain ⟨tb, to, rfl, htb, t0, t1⟩ := ht.pr f2
  simp only [Nat.zero_mul, Nat.add_zero] at t0 t1
  have hn1 : 1 ≤ (n : Int) := by have := hn; omega
  have ht1 : 0 < t := by have := (List.getElem?_eq_some_iff.1 f2).1; omega
  have ht2 : (0 : Int) < (t : Int) := by omega
  have q0 := (HU1.out.cellq (p := ⟨lb, lo, none⟩) hlb (fun h => h)).trans l0
  have q1 := (HU1.out.cellq (p := ⟨lb, lo + 1, none⟩) hlb (fun h => h)).trans l1
  have hlb1 : lb < w1.heap.size := Nat.lt_of_lt_of_le hlb HU1.out.size
  have x0 := held_alloc q0 (.cells #[.slice A n c, .slice M m d] 31)
  have x1 := held_alloc q1 (.cells #[.slice A n c, .slice M m d] 31)
  have y0 := held_alloc t0 (.cells #[.slice A n c, .slice M m d] 31)
  have y1 := held_alloc t1 (.cells #[.slice A n c, .slice M m d] 31)
  have b0 : (w1.alloc (.cells #[.slice A n c, .slice M m d] 31)).cell? ⟨w1.heap.size, 0, none⟩ = some (.slice A n c) := (Blk.new w1 _ _).cell 0
  have b1 : (w1.alloc (.cells #[.slice A n c, .slice M m d] 31)).cell? ⟨w1.heap.size, 1, none⟩ = some (.slice M m d) := (Blk.new w1 _ _).cell 1
  clear ha hb ht hn hmm htt hd f1 f2 f3 l0 l1 q0 q1 t0 t1
  go_wp2_with fail
  go_region_held3 (fun w' => w'.cell? ⟨w1.heap.size, 0, none⟩ = some (.slice A n c) ∧ w'.cell? ⟨w1.heap.size, 1, none⟩ = some (.slice M m d) ∧ w'.cell? ⟨lb, lo, none⟩ = some (.int .i64 v.1) ∧ w'.cell? ⟨lb, lo + 1, none⟩ = some (.int .i64 v.2) ∧ w'.cell? ⟨tb, to, none⟩ = some (.int .i64 v.1) ∧ w'.cell? ⟨tb, to + 1, none⟩ = some (.int .i64 v.2)) (go_keep) ((go_at_call 20; refine (lead_tt HM.out HF.out _ (HB.out.alloc _).drew).mono ?_; rintro e w2 ⟨rfl, hd⟩; have hu2 := Upd.of_below hd (fun _ => False); have z0 := (Blk.new w1 #[.slice A n c, .slice M m d] 31).drew.upd hu2 (fun h => h); have z1 := z0.cell; have HU2 := Lib.hid ((HU1.out.alloc _).drew.trans hu2 (fun _ h => h.elim)); have z2 := (hu2.cellq (p := ⟨lb, lo, none⟩) (show lb < _ by simp; omega) (fun h => h)).trans x0; have z3 := (hu2.cellq (p := ⟨lb, lo + 1, none⟩) (show lb < _ by simp; omega) (fun h => h)).trans x1; have z4 := (hu2.cellq (p := ⟨tb, to, none⟩) (show tb < _ by simp; omega) (fun h => h)).trans y0; have z5 := (hu2.cellq (p := ⟨tb, to + 1, none⟩) (show tb < _ by simp; omega) (fun h => h)).trans y1; clear hd hu2 z0))
  go_wp2
  go_ret
  exact ⟨rfl, HU2.out.below0⟩

theorem blead_walk {w : World} (A0 : Option Addr) (len0 cap0 : Nat) (L0 : List (List Value)) (hL0 : L0.length = len0) (hlc0 : len0 ≤ cap0) (hm0 : cap0 ≤ maxLen) (hn0 : A0 = none → len0 = 0 ∧ cap0 = 0) (hok0 : ∀ row ∈ L0, Oks [.int .i64, .int .i64] row) (hr0 : Rows w A0 2 L0) (a1 : Int) (w1 : (Lit.int .u8 a1).wf = true) :
    Calls Try.prog 8 #[.slice A0 len0 cap0, .int .u8 a1] w fun e w' => e = .returned (.bool true) ∧ Below w.heap.size w w' := by
  obtain ⟨l, hl, _, hs⟩ := sl_prs hL0 hlc0 hm0 hn0 hok0 hr0
  unfold maxLen at hm0
  cases l with
  | nil =>
    simp only [List.length_nil] at hl
    subst hl
    exact blead_nil A0 cap0 a1 w hs
  | cons v vs => exact blead_cons A0 len0 cap0 v vs hl (by omega) a1 w hs
end Go.Proofs.Ytdfnhbhcgkdplaa
