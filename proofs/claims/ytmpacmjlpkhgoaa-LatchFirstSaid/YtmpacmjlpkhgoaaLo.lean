/- LatchOnce -/
import Derived.Test.YtmpacmjlpkhgoaaLw
import Derived.Deep.RegionHeld3
namespace Go.Proofs.Ytmpacmjlpkhgoaa
open Go.RowKit
open Go.Maps (Keyed IsMap Tidy)
set_option linter.unusedVariables false
set_option linter.unusedSimpArgs false

set_option maxHeartbeats 4000000 in
theorem lonce_any (A : Option Addr) (len cap : Nat) (l : List O5) (hl : l.length = len) (hm : len ≤ 9223372036854775807) (hwf : Wf l) (w : World) (hs : Sl w A len cap (fl o5 l)) :
    Calls Try.prog 4 #[.slice A len cap] w fun e w' => e = .returned (.bool true) ∧ Below w.heap.size w w' := by
  have HS := Lib.hid hs
  have HL := Lib.hid hl
  have HW := Lib.hid hwf
  clear hs hl hwf
  go_enter Try.func4, Try.ntmps4
  go_wp2_with fail
  refine (awake_any _).mono ?_
  rintro e w0 ⟨rfl, hd⟩
  have U0 := Lib.hid (Upd.of_below hd (fun _ => False))
  clear hd
  go_wp2_with fail
  refine (ran_any A len cap l HL.out hm HW.out _ (HS.out.upd0 U0.out)).mono ?_
  rintro e w1 ⟨g, F, rfl, hg, hd⟩
  have G1 := Lib.hid hg
  have U1 := Lib.hid (U0.out.trans (Upd.of_below hd (fun _ => False)) (fun _ h => h.elim))
  have hLL : Hid ((lfold [] (l.take 100)).length ≤ 100) := Lib.hid (by have := fold_len (l.take 100) []; simp at this; omega)
  clear hg hd
  obtain ⟨L, hL⟩ : ∃ L, L = lfold [] (l.take 100) := ⟨_, rfl⟩
  rw [← hL] at G1 hLL
  have HO : Hid (Once L) := Lib.hid (by rw [hL]; exact once_fold once_nil)
  have HWL : Hid (Wf L) := Lib.hid (by rw [hL]; exact wf_fold (fun o ho => HW.out o (List.mem_of_mem_take ho)) (fun o ho => by cases ho))
  clear hL
  obtain ⟨n, hn⟩ : ∃ n, L.length = n := ⟨_, rfl⟩
  have HN := Lib.hid hn
  go_wp2_with fail
  refine (all_any g _ F L (by have := hLL.out; omega) _ G1.out).mono ?_
  rintro e w2 ⟨v, rfl, ho, hu⟩
  obtain ⟨A2, c2, rfl, hs2, _⟩ := Sl.of_own ho
  have U2 := Lib.hid (U1.out.trans hu (fun _ h => h.elim))
  have G2 := Lib.hid (G1.out.upd0 hu)
  rw [hn] at hs2
  have S2 := Lib.hid hs2
  have hn1 : n ≤ 1000 := by have := hLL.out; omega
  rw [hn]
  clear ho hs2 hu G1 U1 hn U0
  go_wp2_with fail
  go_loopw [6] (fun i wr => ∃ (k : Nat), k ≤ n ∧ i = .int .i64 k ∧ Hid (Upd (fun _ => False) w2 wr)) (fun i _ => n - (intOf i).toNat)
  case atStart => exact ⟨0, Nat.zero_le _, rfl, Lib.hid (Upd.refl _ _)⟩
  case round =>
    obtain ⟨k, hk, rfl, hu⟩ := hrel
    by_cases h1 : k < n
    · skip
      obtain ⟨o, ho⟩ : ∃ o, L[k]? = some o := ⟨L[k]'(by have := HN.out; omega), List.getElem?_eq_getElem _⟩
      obtain ⟨b, of, e, hb, hc⟩ := (S2.out.upd0 hu.out).row o5_len (by decide) ho
      obtain ⟨oi, ok, oc, ov, oa⟩ := o
      have d0 := hc 0 _ rfl
      have d1 := hc 1 _ rfl
      have d2 := hc 2 _ rfl
      have d3 := hc 3 _ rfl
      have d4 := hc 4 _ rfl
      simp only [Nat.add_zero, ← Nat.add_assoc] at d0 d1 d2 d3 d4
      have i0 : (0 : Int) ≤ (k : Int) := Int.natCast_nonneg _
      have i1 : (k : Int) < (n : Int) := by omega
      subst e
      have HX := Lib.hid ho
      have HWI : Hid ((Lit.int .i64 oi).wf = true) := Lib.hid (HWL.out _ (List.mem_of_getElem? ho))
      have HM1 : Hid (omay (oi, ok, oc, ov, oa) = true) := Lib.hid (HO.out k _ ho).1
      have HG1 : Hid (lget L oi = some (oi, ok, oc, ov, oa)) := Lib.hid (by rw [lget_ix, (HO.out k _ ho).2]; exact ho)
      clear ho hc
      go_wp2_with fail
      refine (of_to (is := true) (by rw [HG1.out]; rfl) (fun h => by cases h) HWI.out (by rw [HN.out]; exact hn1) _ (G2.out.upd0 hu.out)).mono ?_
      rintro e w4 ⟨rfl, hd⟩
      have U4 := Lib.hid (Upd.of_below hd (fun _ => False))
      have U4W := Lib.hid (hu.out.trans U4.out (fun _ h => h.elim))
      have hb4 : b < w4.heap.size := Nat.lt_of_lt_of_le hb U4.out.size
      have hb5 : w4.heap.size ≠ b := by omega
      have x0 := (U4.out.cellq (p := ⟨b, of + k * 5, none⟩) hb (fun h => h)).trans d0
      have x1 := (U4.out.cellq (p := ⟨b, of + k * 5 + 1, none⟩) hb (fun h => h)).trans d1
      have x2 := (U4.out.cellq (p := ⟨b, of + k * 5 + 2, none⟩) hb (fun h => h)).trans d2
      have x3 := (U4.out.cellq (p := ⟨b, of + k * 5 + 3, none⟩) hb (fun h => h)).trans d3
      have x4 := (U4.out.cellq (p := ⟨b, of + k * 5 + 4, none⟩) hb (fun h => h)).trans d4
      clear hd d0 d1 d2 d3 d4
      go_wp2_with fail
      refine Code.gen (fun W => Upd (fun _ => False) w2 W ∧ Blk W w4.heap.size 29 #[.int .i64 oi, .int .i64 ok, .int .i64 oc, .int .i64 ov, .int .u64 oa]) ⟨U4W.out.alloc _, Blk.new _ _ _⟩ ?_
      rintro w5 ⟨u5, b5⟩
      have U5 := Lib.hid u5
      have B5 := Lib.hid b5
      clear u5 b5 x0 x1 x2 x3 x4
      obtain ⟨b', of', e', hb', hc'⟩ := (S2.out.upd0 U5.out).row o5_len (by decide) HX.out
      injection e' with e'
      injection e' with e1 e2
      subst e1
      subst e2
      have d0 := hc' 0 _ rfl
      have d1 := hc' 1 _ rfl
      have d2 := hc' 2 _ rfl
      have d3 := hc' 3 _ rfl
      have d4 := hc' 4 _ rfl
      simp only [Nat.add_zero, ← Nat.add_assoc] at d0 d1 d2 d3 d4
      have cz := B5.out.cell
      have y0 := cz 0
      have y1 := cz 1
      have y2 := cz 2
      have y3 := cz 3
      have y4 := cz 4
      have hl5 := B5.out.lt
      clear hc' cz
      go_region_held3 (fun w' => w'.cell? ⟨b, of + k * 5, none⟩ = some (.int .i64 oi) ∧ w'.cell? ⟨b, of + k * 5 + 1, none⟩ = some (.int .i64 ok) ∧ w'.cell? ⟨b, of + k * 5 + 2, none⟩ = some (.int .i64 oc) ∧ w'.cell? ⟨b, of + k * 5 + 3, none⟩ = some (.int .i64 ov) ∧ w'.cell? ⟨b, of + k * 5 + 4, none⟩ = some (.int .u64 oa) ∧ w'.cell? ⟨w4.heap.size, 0, none⟩ = some (.int .i64 oi) ∧ w'.cell? ⟨w4.heap.size, 1, none⟩ = some (.int .i64 ok) ∧ w'.cell? ⟨w4.heap.size, 2, none⟩ = some (.int .i64 oc) ∧ w'.cell? ⟨w4.heap.size, 3, none⟩ = some (.int .i64 ov) ∧ w'.cell? ⟨w4.heap.size, 4, none⟩ = some (.int .u64 oa)) (go_keep) ((go_at_call 15; refine (may_to HM1.out _).mono ?_; rintro e w6 ⟨rfl, hd⟩; have U6 := Lib.hid (Upd.of_below hd (fun _ => False)); clear hd; have z0 := (U6.out.cellq (p := ⟨b, of + k * 5, none⟩) hb' (fun h => h)).trans d0; have z1 := (U6.out.cellq (p := ⟨b, of + k * 5 + 1, none⟩) hb' (fun h => h)).trans d1; have z2 := (U6.out.cellq (p := ⟨b, of + k * 5 + 2, none⟩) hb' (fun h => h)).trans d2; have z3 := (U6.out.cellq (p := ⟨b, of + k * 5 + 3, none⟩) hb' (fun h => h)).trans d3; have z4 := (U6.out.cellq (p := ⟨b, of + k * 5 + 4, none⟩) hb' (fun h => h)).trans d4; have z5 := (U6.out.cellq (p := ⟨w4.heap.size, 0, none⟩) hl5 (fun h => h)).trans y0; have z6 := (U6.out.cellq (p := ⟨w4.heap.size, 1, none⟩) hl5 (fun h => h)).trans y1; have z7 := (U6.out.cellq (p := ⟨w4.heap.size, 2, none⟩) hl5 (fun h => h)).trans y2; have z8 := (U6.out.cellq (p := ⟨w4.heap.size, 3, none⟩) hl5 (fun h => h)).trans y3; have z9 := (U6.out.cellq (p := ⟨w4.heap.size, 4, none⟩) hl5 (fun h => h)).trans y4))
      have U7 : Hid (Upd (fun _ => False) w2 w6) := Lib.hid ((U5.out.drew).trans U6.out (fun _ h => h.elim))
      clear z0 z1 z2 z3 z4 z5 z6 z7 z8 z9 d0 d1 d2 d3 d4 y0 y1 y2 y3 y4
      go_wp2_with fail
      go_loopw [9] (fun jv wr2 => ∃ (j : Nat), j ≤ k ∧ jv = .int .i64 j ∧ Hid (Upd (fun _ => False) w2 wr2)) (fun jv _ => k - (intOf jv).toNat)
      case atStart => exact ⟨0, Nat.zero_le _, rfl, U7⟩
      case round =>
        obtain ⟨j, hjk, rfl, hu2⟩ := hrel
        by_cases hlt2 : j < k
        · obtain ⟨o2, ho2⟩ : ∃ o, L[j]? = some o := ⟨L[j]'(by have := HN.out; omega), List.getElem?_eq_getElem _⟩
          obtain ⟨b2, of2, e2, _, hc2⟩ := (S2.out.upd0 hu2.out).row o5_len (by decide) ho2
          injection e2 with e2
          injection e2 with e3 e4
          subst e3
          subst e4
          obtain ⟨b3, of3, e2, _, hc3⟩ := (S2.out.upd0 hu2.out).row o5_len (by decide) HX.out
          injection e2 with e2
          injection e2 with e3 e4
          subst e3
          subst e4
          obtain ⟨pi, pk, pc, pv, pa⟩ := o2
          have q0 := hc2 0 _ rfl
          have q1 := hc3 0 _ rfl
          simp only [Nat.add_zero, ← Nat.add_assoc] at q0 q1
          have hne : (pi == oi) = false := by simpa using once_apart HO.out ho2 HX.out (by omega)
          have j0 : (0 : Int) ≤ (j : Int) := Int.natCast_nonneg _
          have j1 : (j : Int) < (k : Int) := by omega
          have j2 : (j : Int) < (n : Int) := by omega
          clear hc2 hc3 ho2
          go_wp2_with fail
          go_quiet (fail)
          go_wp2
          go_roundw
          case rel => exact ⟨j + 1, by omega, by go_num, Lib.hid (hu2.out.drewN _)⟩
          case measure => simp [intOf]; omega
        · go_wp2
          go_roundw
          case rel => exact ⟨k + 1, by omega, by go_num, hu2⟩
          case measure => simp [intOf]; omega
    · go_wp2
      go_ret
      exact ⟨rfl, (U2.out.trans hu.out (fun _ h => h.elim)).below0⟩
end Go.Proofs.Ytmpacmjlpkhgoaa
