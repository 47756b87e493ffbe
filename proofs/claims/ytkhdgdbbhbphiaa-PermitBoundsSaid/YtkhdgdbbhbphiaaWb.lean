/- PermitBounds. -/
import Derived.Test.YtkhdgdbbhbphiaaPs
import Derived.Test.YtkhdgdbbhbphiaaQu
import Derived.Test.YtkhdgdbbhbphiaaWo
namespace Go.Proofs.Ytkhdgdbbhbphiaa
open Go.RowKit
set_option linter.unusedVariables false
set_option linter.unusedSimpArgs false

theorem holds_yes {g b N : Nat} {most : Int} {hs : List H2} {h : H2} (hh : hok h) (hm : h ∈ hs) (w : World) (hp : PS w g b most N hs) : Calls Try.prog 11 #[.pointer (some ⟨g, 0, none⟩), hval h] w fun e w' => e = .returned (.bool true) ∧ Upd (fun _ => False) w w' := by
  have := holds_to hh w hp
  rwa [decide_eq_true hm] at this
set_option maxRecDepth 100000 in
set_option maxHeartbeats 4000000 in
theorem pbounds_any (L : Option Addr) (len cap : Nat) (l : List P3) (hl : l.length = len) (hm : len ≤ 9223372036854775807) (hwf : Wp l) (w : World) (hs0 : Sl w L len cap (fl p3 l)) :
    Calls Try.prog 5 #[.slice L len cap] w fun e w' => e = .returned (.bool true) ∧ Below w.heap.size w w' := by
  have HL := Lib.hid hl
  have HS := Lib.hid hs0
  have HWF := Lib.hid hwf
  clear hl hs0 hwf
  go_enter Try.func5, Try.ntmps5
  go_wp2_with fail
  refine (awake_any _).mono ?_
  rintro e_ w1 ⟨rfl, hu⟩
  have U1 := Lib.hid hu
  clear hu
  go_wp2_with fail
  refine (ran_to L len cap l HL.out hm HWF.out _ (HS.out.upd0 U1.out)).mono ?_
  rintro e_ w2 ⟨g, rfl, b, hs, hp, hlen, hg, hb, hu⟩
  have U2 := Lib.hid (U1.out.trans hu (fun _ h => h.elim))
  have P2 := Lib.hid hp
  have HLEN := Lib.hid hlen
  clear hp hlen hg hb hu U1
  go_wp2_with fail
  refine (all_to (Nat.le_trans HLEN.out (by decide)) _ P2.out).mono ?_
  rintro e_ w3 ⟨A, n, c, l1, rfl, hpm, hri, hln, hsl, hu⟩
  have U3 := Lib.hid (U2.out.trans hu (fun _ h => h.elim))
  have P3_ := Lib.hid (P2.out.upd0 hu)
  have S3 := Lib.hid hsl
  have HPM := Lib.hid hpm
  have HRI := Lib.hid hri
  have HLN := Lib.hid hln
  have HHL : Hid (hs.length = n) := Lib.hid (by rw [← hpm.length_eq]; exact hln)
  have hn4 : n ≤ 4 := by have := HLEN.out; have := HHL.out; omega
  clear hpm hri hln hsl hu U2 P2
  go_wp2_with fail
  go_loopw [6] (fun iv wr => ∃ (k : Nat), k ≤ n ∧ iv = .int .i64 k ∧ Hid (Upd (fun _ => False) w3 wr)) (fun iv _ => n - (intOf iv).toNat)
  case atStart => exact ⟨0, Nat.zero_le _, rfl, Lib.hid (Upd.refl _ _)⟩
  case round =>
    obtain ⟨k, hk, rfl, HU⟩ := hrel
    have i0 : (0 : Int) ≤ (k : Int) := Int.natCast_nonneg _
    by_cases hkn : k < n
    · obtain ⟨x, hx⟩ : ∃ x, l1[k]? = some x := ⟨l1[k]'(by rw [HLN.out]; exact hkn), List.getElem?_eq_getElem _⟩
      have HIN : Hid (x ∈ hs) := Lib.hid (HPM.out.mem_iff.1 (List.mem_of_getElem? hx))
      have HOK : Hid (hok x) := Lib.hid (P3_.out.oks x HIN.out)
      have i1 : (k : Int) < (n : Int) := by omega
      cases k with
      | zero =>
        obtain ⟨b1, o1, rfl, hb1, c0, c1⟩ := (S3.out.upd0 HU.out).pr hx
        rw [Nat.zero_mul, Nat.add_zero] at c0 c1
        clear hx
        rw [show ((0 : Nat) : Int) = 0 from rfl]
        have z0_ : ¬ (0 : Int) < 0 := by omega
        have z4_ : (0 : Int) < (n : Int) := by omega
        have z5_ : (0 : Int) ≤ 0 := by omega
        go_wp2_with fail
        have f0_ : ∀ z : Later wr, z.at_.cell? ⟨b1, o1, none⟩ = some (.int .i64 x.1) := Later.cell c0 hb1
        have f1_ : ∀ z : Later wr, z.at_.cell? ⟨b1, o1 + 1, none⟩ = some (.int .i64 x.2) := Later.cell c1 hb1
        refine wp_region_upd (by kernel_rfl) (by kernel_rfl) ?_
        repeat (go_big_quiet_step ((go_at_call 11; exact Later.calls _ (holds_yes HOK.out HIN.out _ (P3_.out.upd0 (HU.out.trans (Later.upd _) (fun _ h => h.elim)))))))
        refine wpQuiet_nil ?_
        rintro _ ⟨⟨w5, hu5⟩, rfl⟩
        have HU5 := Lib.hid (HU.out.trans hu5 (fun _ h => h.elim))
        clear hu5 f0_ f1_
        go_wp2
        go_roundw
        case rel => exact ⟨1, by omega, by go_num, HU5⟩
        case measure => simp [intOf]; omega
      | succ j =>
        obtain ⟨y, hy⟩ : ∃ y, l1[j]? = some y := ⟨l1[j]'(by rw [HLN.out]; omega), List.getElem?_eq_getElem _⟩
        have hlt : rless y x = true := by
          obtain ⟨h1, h2⟩ := List.getElem?_eq_some_iff.1 hx
          obtain ⟨h3, h4⟩ := List.getElem?_eq_some_iff.1 hy
          rw [← h2, ← h4]
          exact (List.pairwise_iff_getElem.1 HRI.out) j (j + 1) h3 h1 (Nat.lt_succ_self j)
        obtain ⟨b1, o1, rfl, hb1, c0, c1⟩ := (S3.out.upd0 HU.out).pr hx
        obtain ⟨b2, o2, e2_, _, d0, d1⟩ := (S3.out.upd0 HU.out).pr hy
        injection e2_ with e2_
        injection e2_ with e3 e4
        subst e3 e4
        simp only [rless, Bool.or_eq_true, Bool.and_eq_true, decide_eq_true_eq] at hlt
        have j0 : (0 : Int) ≤ (j : Int) := Int.natCast_nonneg _
        have j1 : (j : Int) ≤ 4 := by omega
        have j2 : (j : Int) < (n : Int) := by omega
        have j3 : (j : Int) + 1 < (n : Int) := by omega
        have q1 : ¬ x.1 < y.1 := by omega
        have q2 : decide (x.1 < y.1) = false := decide_eq_false q1
        have z4_ : (0 : Int) ≤ (j : Int) + 1 := by omega
        have z0_ : (0 : Int) < (j : Int) + 1 := by omega
        have z1_ : IntKind.i64.wrap ((j : Int) + 1 - 1) = (j : Int) := by rw [IntKind.wrap_i64]; omega
        have z2_ : wrap64 ((j : Int) + 1 - 1) = (j : Int) := by rw [show (j : Int) + 1 - 1 = j by omega]; unfold wrap64; omega
        have z3_ : IntKind.i64.wrap (j : Int) = (j : Int) := by rw [IntKind.wrap_i64]; omega
        clear hx hy
        by_cases hq : y.1 = x.1
        · have n1_ : (y.1 == x.1) = true := by simp [hq]
          have Q3 := Lib.hid (show ¬ x.2 ≤ y.2 by omega)
          have Q1 := Lib.hid q1
          clear hlt
          go_wp2_with fail
          have q5 := Q3.out
          have q6 := Q1.out
          have q7 : decide (x.1 < y.1) = false := decide_eq_false (by have := Q1.out; omega)
          have q8 : decide (x.2 ≤ y.2) = false := decide_eq_false (by have := Q3.out; omega)
          have f0_ : ∀ z : Later wr, z.at_.cell? ⟨b1, o1 + (j + 1) * 2, none⟩ = some (.int .i64 x.1) := Later.cell c0 hb1
          have f1_ : ∀ z : Later wr, z.at_.cell? ⟨b1, o1 + (j + 1) * 2 + 1, none⟩ = some (.int .i64 x.2) := Later.cell c1 hb1
          have f2_ : ∀ z : Later wr, z.at_.cell? ⟨b1, o1 + j * 2, none⟩ = some (.int .i64 y.1) := Later.cell d0 hb1
          have f3_ : ∀ z : Later wr, z.at_.cell? ⟨b1, o1 + j * 2 + 1, none⟩ = some (.int .i64 y.2) := Later.cell d1 hb1
          refine wp_region_upd (by kernel_rfl) (by kernel_rfl) ?_
          repeat (go_big_quiet_step ((go_at_call 11; exact Later.calls _ (holds_yes HOK.out HIN.out _ (P3_.out.upd0 (HU.out.trans (Later.upd _) (fun _ h => h.elim)))))))
          refine wpQuiet_nil ?_
          rintro _ ⟨⟨w5, hu5⟩, rfl⟩
          have HU5 := Lib.hid (HU.out.trans hu5 (fun _ h => h.elim))
          clear hu5 f0_ f1_ f2_ f3_
          go_wp2
          go_roundw
          case rel => exact ⟨j + 2, by omega, by go_num, HU5⟩
          case measure => simp [intOf]; omega
        · have n1_ : (y.1 == x.1) = false := by simp [hq]
          have Q1 := Lib.hid q1
          clear hlt
          go_wp2_with fail
          have q6 := Q1.out
          have q7 : decide (x.1 < y.1) = false := decide_eq_false (by have := Q1.out; omega)
          have f0_ : ∀ z : Later wr, z.at_.cell? ⟨b1, o1 + (j + 1) * 2, none⟩ = some (.int .i64 x.1) := Later.cell c0 hb1
          have f1_ : ∀ z : Later wr, z.at_.cell? ⟨b1, o1 + (j + 1) * 2 + 1, none⟩ = some (.int .i64 x.2) := Later.cell c1 hb1
          have f2_ : ∀ z : Later wr, z.at_.cell? ⟨b1, o1 + j * 2, none⟩ = some (.int .i64 y.1) := Later.cell d0 hb1
          have f3_ : ∀ z : Later wr, z.at_.cell? ⟨b1, o1 + j * 2 + 1, none⟩ = some (.int .i64 y.2) := Later.cell d1 hb1
          refine wp_region_upd (by kernel_rfl) (by kernel_rfl) ?_
          repeat (go_big_quiet_step ((go_at_call 11; exact Later.calls _ (holds_yes HOK.out HIN.out _ (P3_.out.upd0 (HU.out.trans (Later.upd _) (fun _ h => h.elim)))))))
          refine wpQuiet_nil ?_
          rintro _ ⟨⟨w5, hu5⟩, rfl⟩
          have HU5 := Lib.hid (HU.out.trans hu5 (fun _ h => h.elim))
          clear hu5 f0_ f1_ f2_ f3_
          go_wp2
          go_roundw
          case rel => exact ⟨j + 2, by omega, by go_num, HU5⟩
          case measure => simp [intOf]; omega
    · obtain rfl : k = n := by omega
      have P4 := Lib.hid (P3_.out.upd0 HU.out)
      have U4 := Lib.hid (U3.out.trans HU.out (fun _ h => h.elim))
      have k4 : (k : Int) ≤ 4 := by omega
      go_wp2_with fail
      refine (used_to _ P4.out).mono ?_
      rintro e_ w5 ⟨rfl, hu⟩
      have P5 := Lib.hid (P4.out.upd0 hu)
      have U5 := Lib.hid (U4.out.trans hu (fun _ h => h.elim))
      clear hu
      rw [HHL.out]
      go_wp2_with fail
      refine (room_to _ P5.out).mono ?_
      rintro e_ w6 ⟨rfl, nq, hq⟩
      have U6 := Lib.hid (U5.out.trans (hq ▸ (Upd.refl (fun _ => False) w5).drewN nq) (fun _ h => h.elim))
      clear hq
      rw [HHL.out]
      by_cases hk4 : (k : Int) < 4
      · rw [decide_eq_true hk4]
        go_wp2
        go_ret
        exact ⟨rfl, U6.out.below0⟩
      · have HK4 := Lib.hid hk4
        rw [decide_eq_false hk4]
        go_wp2
        go_ret
        exact ⟨by simp [HK4.out], U6.out.below0⟩
theorem pbounds_walk {w : World} (A9 : Option Addr) (len9 cap9 : Nat) (L9 : List (List Value)) (hL9 : L9.length = len9) (hlc9 : len9 ≤ cap9) (hm9 : cap9 ≤ maxLen) (hn9 : A9 = none → len9 = 0 ∧ cap9 = 0) (hok9 : ∀ row ∈ L9, Oks [.int .i64, .int .i64, .int .i64] row) (hr9 : Rows w A9 3 L9) :
    Calls Try.prog 5 #[.slice A9 len9 cap9] w fun e w' => e = .returned (.bool true) ∧ Below w.heap.size w w' := by
  obtain ⟨l, hl, hwf, hs⟩ := sl_rows (enc := p3) p3_len (by decide) p3_dec hL9 hlc9 hm9 hn9 hok9 hr9
  unfold maxLen at hm9
  exact pbounds_any A9 len9 cap9 l hl (by omega) hwf w hs
end Go.Proofs.Ytkhdgdbbhbphiaa
