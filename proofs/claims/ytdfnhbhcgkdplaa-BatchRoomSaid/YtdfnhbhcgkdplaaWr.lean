/- BatchRoom's walk. -/
import Derived.Test.YtdfnhbhcgkdplaaPw
import Derived.Test.YtdfnhbhcgkdplaaSa
import Derived.IntWalk
namespace Go.Proofs.Ytdfnhbhcgkdplaa
open Go.RowKit
set_option linter.unusedVariables false
set_option linter.unusedSimpArgs false

set_option maxHeartbeats 4000000 in
theorem broom_any (L : Option Addr) (len cap : Nat) (l : List (Int × Int)) (hl : l.length = len) (hm : len ≤ 9223372036854775807) (a p q : Int) (w : World) (hs : Sl w L len cap (prs l)) :
    Calls Try.prog 5 #[.slice L len cap, .int .u8 a, .agg #[.int .i64 p, .int .i64 q]] w fun e w' => e = .returned (.bool true) ∧ Below w.heap.size w w' := by
  have HS := Lib.hid hs
  have HL := Lib.hid hl
  clear hs hl
  go_enter Try.func5, Try.ntmps5
  go_wp2_with fail
  refine (awake_any _).mono ?_
  rintro e w0 ⟨rfl, hd0⟩
  have HU0 := Lib.hid (((Upd.refl (fun _ => False) w).alloc _).trans (Upd.of_below hd0 (fun _ => False)) (fun _ h => h.elim))
  have WB0 : Hid (Blk w0 w.heap.size 58 #[.int .i64 p, .int .i64 q]) := Lib.hid ((Blk.new w _ _).upd (Upd.of_below hd0 (fun _ => False)) (fun h => h))
  clear hd0
  go_wp2_with fail
  generalize hmo : wrap64 (1 + wrap64 (a.tmod 6)) = mo
  refine (all_any _ len cap l HL.out hm _ _ (HS.out.upd0 HU0.out)).mono ?_
  rintro e w1 ⟨A, c, M, d, T, tc, n, m, t, rfl, ha, hb, ht, hn, hmm, htt, hd⟩
  have HU1 := Lib.hid (HU0.out.trans (Upd.of_below hd (fun _ => False)) (fun _ h => h.elim))
  have WB1 := Lib.hid (WB0.out.upd (Upd.of_below hd (fun _ => False)) (fun h => h))
  obtain ⟨hk1, hk2, hk3⟩ := ball_le mo l
  rw [hn] at hk1
  rw [hmm] at hk2
  obtain ⟨⟨xs, ms, tk⟩, hball⟩ : ∃ s, s = ball mo l := ⟨_, rfl⟩
  rw [← hball] at ha hb ht hn hmm htt
  have HA := Lib.hid ha
  have HB := Lib.hid hb
  have HN := Lib.hid hn
  have HM := Lib.hid hmm
  clear ha hb ht hn hmm htt hd hk3 hball hmo HS
  go_wp2_with fail
  go_loopw [11, 12] (fun tv i wr => ∃ (k : Nat) (t : Bool), k ≤ n ∧ tv = .bool t ∧ i = .int .i64 k ∧ Hid (t = true → idx xs q < xs.length) ∧ Hid (t = false → ∀ (j : Nat) x, j < k → xs[j]? = some x → x ≠ q) ∧ Hid (Upd (fun _ => False) w wr) ∧ Hid (Blk wr w.heap.size 58 #[.int .i64 p, .int .i64 q]) ∧ Hid (Blk wr w1.heap.size 31 #[.slice A n c, .slice M m d]) ∧ Hid (Sl wr A n c (nums xs)) ∧ Hid (Sl wr M m d (prs ms))) (fun _ i _ => n - (intOf i).toNat)
  case atStart =>
    exact ⟨0, false, Nat.zero_le _, rfl, rfl, Lib.hid (fun h => by cases h), Lib.hid (fun _ j x h => by omega), Lib.hid (HU1.out.alloc _), Lib.hid (WB1.out.alloc _), Lib.hid (Blk.new _ _ _), Lib.hid (HA.out.alloc _), Lib.hid (HB.out.alloc _)⟩
  case round =>
    obtain ⟨k, t, hk, rfl, rfl, h1, h0, hu, hw, hbb, ha, hb⟩ := hrel
    have cb := hbb.out.cell
    have cw := hw.out.cell
    by_cases hlt : k < n
    · obtain ⟨x, hx⟩ : ∃ x, xs[k]? = some x := ⟨xs[k]'(by rw [HN.out]; exact hlt), List.getElem?_eq_getElem _⟩
      obtain ⟨ab, ao, rfl, hab, a0⟩ := ha.out.num hx
      have y0 := cb 0
      have w1' := cw 1
      have i0' : (0 : Int) ≤ (k : Int) := Int.natCast_nonneg _
      have i1' : (k : Int) < (n : Int) := by omega
      have HX := Lib.hid hx
      clear hx
      cases t with
      | true =>
        have HI := Lib.hid (h1.out rfl)
        clear h1 h0
        go_wp2_with fail
        go_quiet (fail)
        go_wp2
        go_roundw
        case rel => exact ⟨k + 1, true, by omega, rfl, by go_num, Lib.hid (fun _ => HI.out), Lib.hid (fun h => by cases h), Lib.hid (hu.out.drewN _), Lib.hid (hw.out.drewN _), Lib.hid (hbb.out.drewN _), Lib.hid (ha.out.drewN _), Lib.hid (hb.out.drewN _)⟩
        case measure => simp [intOf]; omega
      | false =>
        by_cases hxq : x = q
        · subst hxq
          have HI : Hid (idx xs x < xs.length) := Lib.hid (Decidable.byContradiction fun hn => idx_ne hn k x HX.out rfl)
          go_wp2_with fail
          go_quiet (fail)
          go_wp2
          go_roundw
          case rel => exact ⟨k + 1, true, by omega, rfl, by go_num, Lib.hid (fun _ => HI.out), Lib.hid (fun h => by cases h), Lib.hid (hu.out.drewN _), Lib.hid (hw.out.drewN _), Lib.hid (hbb.out.drewN _), Lib.hid (ha.out.drewN _), Lib.hid (hb.out.drewN _)⟩
          case measure => simp [intOf]; omega
        · have hb' : (x == q) = false := by simpa using hxq
          have hd' : decide (x = q) = false := by simpa using hxq
          have HI : Hid (∀ (j : Nat) y, j < k + 1 → xs[j]? = some y → y ≠ q) := Lib.hid (fun j y hj hy => by
            rcases Nat.lt_succ_iff_lt_or_eq.1 hj with h | h
            · exact h0.out rfl j y h hy
            · subst h
              rw [HX.out] at hy
              injection hy with hy
              subst hy
              exact hxq)
          go_wp2_with fail
          go_quiet (fail)
          go_wp2
          go_roundw
          case rel => exact ⟨k + 1, false, by omega, rfl, by go_num, Lib.hid (fun h => by cases h), Lib.hid (fun _ => HI.out), Lib.hid (hu.out.drewN _), Lib.hid (hw.out.drewN _), Lib.hid (hbb.out.drewN _), Lib.hid (ha.out.drewN _), Lib.hid (hb.out.drewN _)⟩
          case measure => simp [intOf]; omega
    · have hkn : k = n := by omega
      subst hkn
      have y0 := cb 0
      cases t with
      | true =>
        have HI := Lib.hid (h1.out rfl)
        have HBD : Hid (badd xs ms p q mo = (xs, ms ++ [(p, (idx xs q : Int))], true)) := Lib.hid (by unfold badd; rw [if_pos HI.out])
        have hnk : ((k : Int) == (k : Int) + 1) = false := by simpa using (by omega : ¬ (k : Int) = (k : Int) + 1)
        go_wp2_with fail
        refine (add_to HBD.out HN.out HM.out (n' := k) (m' := m + 1) HN.out (by simp [HM.out]) (by omega) (by omega) _ ha.out hb.out).mono ?_
        rintro e w5 ⟨A5, c5, M5, d5, rfl, _, _, _, _, hd⟩
        have bb5 := hbb.out.upd (Upd.of_below hd (fun _ => False)) (fun h => h)
        have cb5 := bb5.cell
        have lt5 := bb5.lt
        have HU5 := Lib.hid (hu.out.trans (Upd.of_below hd (fun _ => False)) (fun _ h => h.elim))
        have BB5 := Lib.hid bb5
        clear bb5 hd y0 cb
        go_wp2
        go_ret
        exact ⟨rfl, (HU5.out.alloc _).below0⟩
      | false =>
        have HI : Hid (¬ idx xs q < xs.length) := Lib.hid (by
          have := idx_none (xs := xs) (a := q) (fun j x hx => h0.out rfl j x (by have := (List.getElem?_eq_some_iff.1 hx).1; have := HN.out; omega) hx)
          omega)
        by_cases hf : mo ≤ (k : Int)
        · have HF : Hid (decide ((k : Int) ≥ mo) = true) := Lib.hid (by simpa using hf)
          have HBD : Hid (badd xs ms p q mo = (xs, ms, false)) := Lib.hid (by unfold badd; rw [if_neg HI.out, if_pos (by rw [HN.out]; exact hf)])
          clear hf
          go_wp2_with fail
          refine (add_to HBD.out HN.out HM.out (n' := k) (m' := m) HN.out HM.out (by omega) (by omega) _ ha.out hb.out).mono ?_
          rintro e w5 ⟨A5, c5, M5, d5, rfl, _, _, _, _, hd⟩
          have bb5 := hbb.out.upd (Upd.of_below hd (fun _ => False)) (fun h => h)
          have cb5 := bb5.cell
          have lt5 := bb5.lt
          have HU5 := Lib.hid (hu.out.trans (Upd.of_below hd (fun _ => False)) (fun _ h => h.elim))
          have BB5 := Lib.hid bb5
          clear bb5 hd y0 cb
          go_wp2_with fail
          refine (full_to HF.out (by omega) _).mono ?_
          rintro e w6 ⟨rfl, hd⟩
          have bb6 := (BB5.out.alloc (.cells #[.slice A5 (k) c5, .slice M5 (m) d5] 31)).upd (Upd.of_below hd (fun _ => False)) (fun h => h)
          have cb6 := bb6.cell
          have bn6 := (Blk.new w5 #[.slice A5 (k) c5, .slice M5 (m) d5] 31).upd (Upd.of_below hd (fun _ => False)) (fun h => h)
          have cn6 := bn6.cell
          have HU6 := Lib.hid ((HU5.out.alloc _).trans (Upd.of_below hd (fun _ => False)) (fun _ h => h.elim))
          clear bb6 bn6 hd
          have hnk : ((k : Int) == (k : Int) + 1) = false := by simpa using (by omega : ¬ (k : Int) = (k : Int) + 1)
          go_wp2
          go_ret
          exact ⟨rfl, HU6.out.below0⟩
        · have HF : Hid (decide ((k : Int) ≥ mo) = false) := Lib.hid (by simpa using hf)
          have HBD : Hid (badd xs ms p q mo = (xs ++ [q], ms ++ [(p, (xs.length : Int))], true)) := Lib.hid (by unfold badd; rw [if_neg HI.out, if_neg (by rw [HN.out]; exact hf)])
          clear hf
          go_wp2_with fail
          refine (add_to HBD.out HN.out HM.out (n' := k + 1) (m' := m + 1) (by simp [HN.out]) (by simp [HM.out]) (by omega) (by omega) _ ha.out hb.out).mono ?_
          rintro e w5 ⟨A5, c5, M5, d5, rfl, _, _, _, _, hd⟩
          have bb5 := hbb.out.upd (Upd.of_below hd (fun _ => False)) (fun h => h)
          have cb5 := bb5.cell
          have lt5 := bb5.lt
          have HU5 := Lib.hid (hu.out.trans (Upd.of_below hd (fun _ => False)) (fun _ h => h.elim))
          have BB5 := Lib.hid bb5
          clear bb5 hd y0 cb
          go_wp2_with fail
          refine (full_to HF.out (by omega) _).mono ?_
          rintro e w6 ⟨rfl, hd⟩
          have bb6 := (BB5.out.alloc (.cells #[.slice A5 (k + 1) c5, .slice M5 (m + 1) d5] 31)).upd (Upd.of_below hd (fun _ => False)) (fun h => h)
          have cb6 := bb6.cell
          have bn6 := (Blk.new w5 #[.slice A5 (k + 1) c5, .slice M5 (m + 1) d5] 31).upd (Upd.of_below hd (fun _ => False)) (fun h => h)
          have cn6 := bn6.cell
          have HU6 := Lib.hid ((HU5.out.alloc _).trans (Upd.of_below hd (fun _ => False)) (fun _ h => h.elim))
          clear bb6 bn6 hd
          go_wp2
          go_ret
          exact ⟨rfl, HU6.out.below0⟩

theorem broom_walk {w : World} (A0 : Option Addr) (len0 cap0 : Nat) (L0 : List (List Value)) (hL0 : L0.length = len0) (hlc0 : len0 ≤ cap0) (hm0 : cap0 ≤ maxLen) (hn0 : A0 = none → len0 = 0 ∧ cap0 = 0) (hok0 : ∀ row ∈ L0, Oks [.int .i64, .int .i64] row) (hr0 : Rows w A0 2 L0) (a1 : Int) (w1 : (Lit.int .u8 a1).wf = true) (c2 : Array Value) (w2 : Oks [.int .i64, .int .i64] c2.toList) :
    Calls Try.prog 5 #[.slice A0 len0 cap0, .int .u8 a1, .agg c2] w fun e w' => e = .returned (.bool true) ∧ Below w.heap.size w w' := by
  obtain ⟨l, hl, _, hs⟩ := sl_prs hL0 hlc0 hm0 hn0 hok0 hr0
  unfold maxLen at hm0
  obtain ⟨c2⟩ := c2
  obtain ⟨v0, r0, e0, ⟨x, rfl, _⟩, h1⟩ := w2.cons
  obtain ⟨v1, r1, e1, ⟨y, rfl, _⟩, h2⟩ := h1.cons
  have e2 := h2.nil
  simp only at e0
  subst e0 e1 e2
  exact broom_any A0 len0 cap0 l hl (by omega) a1 x y w hs
end Go.Proofs.Ytdfnhbhcgkdplaa
