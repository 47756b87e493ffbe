/- The document's Take. -/
import Derived.Test.YtkhdgdbbhbphiaaPr
import Derived.Test.YtkhdgdbbhbphiaaAp
import Derived.Test.YtkhdgdbbhbphiaaKp
import Derived.Deep.RegionHeld3
import Derived.Deep.AppendLies
import Derived.BigQuiet
import Derived.Deep.QuietTactic
import Derived.LoopTactic
import Derived.Deep.CutBlock
import Derived.Deep.CutRange
namespace Go.Proofs.Ytkhdgdbbhbphiaa
open Go.RowKit
set_option linter.unusedVariables false
set_option linter.unusedSimpArgs false

set_option maxHeartbeats 1000000 in
theorem rtake_to {A : Option Addr} {n c : Nat} {l : List H2} {h : H2} {most : Int} (hl : l.length = n) (hn : n ≤ 1000) (w : World) (hs : Sl w A n c (prs l)) : Calls Try.prog 23 #[.slice A n c, .int .i64 most, hval h] w fun e w' => ∃ A' n' c', e = .returned (.tuple #[.slice A' n' c', .bool (rtakes l most h)]) ∧ (rtake l most h).length = n' ∧ Sl w' A' n' c' (prs (rtake l most h)) ∧ Upd (fun _ => False) w w' := by
  obtain ⟨w1, hw1⟩ : ∃ w1, w.alloc (.cells #[.int .i64 h.1, .int .i64 h.2] 24) = w1 := ⟨_, rfl⟩
  have HU1 : Hid (Upd (fun _ => False) w w1) := Lib.hid (hw1 ▸ (Upd.refl _ w).alloc _)
  have HBX : Hid (Blk w1 w.heap.size 24 #[.int .i64 h.1, .int .i64 h.2]) := Lib.hid (hw1 ▸ Blk.new w _ _)
  have HS := Lib.hid (hs.upd0 HU1.out)
  have HS0 := Lib.hid hs
  have HL := Lib.hid hl
  clear hs hl
  by_cases hm : most ≤ (n : Int)
  · have HT : Hid (rtakes l most h = false) := Lib.hid (by unfold rtakes; rw [HL.out]; simp [hm])
    go_enter Try.func23, Try.ntmps23
    go_wp2
    exact bodyPost_ret (v := .tuple #[.slice A n c, .bool false]) (by simp [results, Try.results23, go_sem]) rfl ⟨A, n, c, by rw [HT.out], by rw [rtake_no HT.out]; exact HL.out, by rw [rtake_no HT.out]; exact HS.out, HU1.out⟩
  · have b0_ : w1.cell? ⟨w.heap.size, 0, none⟩ = some (.int .i64 h.1) := HBX.out.cell 0
    have b1_ : w1.cell? ⟨w.heap.size, 1, none⟩ = some (.int .i64 h.2) := HBX.out.cell 1
    have bl := HBX.out.lt
    go_enter Try.func23, Try.ntmps23
    go_wp2_with fail
    refine (rholds_to HL.out hn _ HS.out).mono ?_
    rintro e_ w2 ⟨rfl, hu⟩
    have HU2 := Lib.hid (HU1.out.trans hu (fun _ h => h.elim))
    have HB2 := Lib.hid (HBX.out.upd hu (fun h => h))
    have HS2 := Lib.hid (HS.out.upd0 hu)
    clear hu HU1 HBX HS b0_ b1_ bl hw1
    by_cases hc : h ∈ l
    · have HT : Hid (rtakes l most h = false) := Lib.hid (by unfold rtakes; simp [hc])
      rw [decide_eq_true hc]
      clear hc
      go_wp2
      exact bodyPost_ret (v := .tuple #[.slice A n c, .bool false]) (by simp [results, Try.results23, go_sem]) rfl ⟨A, n, c, by rw [HT.out], by rw [rtake_no HT.out]; exact HL.out, by rw [rtake_no HT.out]; exact HS2.out, HU2.out⟩
    · have HT : Hid (rtakes l most h = true) := Lib.hid (by unfold rtakes; rw [HL.out]; simp [hc, hm])
      rw [decide_eq_false hc]
      clear hc
      go_upto_block 0 with fail
      go_cut [8] from 20 to 33 (fun av wx => av = .int .i64 ((rat l h : Nat) : Int) ∧ Hid (Upd (fun _ => False) w2 wx))
      case first =>
        go_wp2_with fail
        go_loopw [8] (fun av wr => ∃ (k : Nat), k ≤ n ∧ av = .int .i64 k ∧ Hid (rat l h = k + rat (l.drop k) h) ∧ Hid (Upd (fun _ => False) w2 wr)) (fun av _ => n - (intOf av).toNat)
        case atStart => exact ⟨0, Nat.zero_le _, rfl, Lib.hid (by simp), Lib.hid (Upd.refl _ _)⟩
        case round =>
          obtain ⟨k, hk, rfl, HRK, HU3⟩ := hrel
          have i0 : (0 : Int) ≤ (k : Int) := Int.natCast_nonneg _
          by_cases hkn : k < n
          · obtain ⟨x, hx⟩ : ∃ x, l[k]? = some x := ⟨l[k]'(by rw [HL.out]; exact hkn), List.getElem?_eq_getElem _⟩
            obtain ⟨b, o, rfl, hb, c0, c1⟩ := (HS2.out.upd0 HU3.out).pr hx
            have hbx := HB2.out.upd HU3.out (fun h => h)
            have b0_ : wr.cell? ⟨w.heap.size, 0, none⟩ = some (.int .i64 h.1) := hbx.cell 0
            have b1_ : wr.cell? ⟨w.heap.size, 1, none⟩ = some (.int .i64 h.2) := hbx.cell 1
            have bl := hbx.lt
            have i1 : (k : Int) < (n : Int) := by omega
            have HD := Lib.hid (rat_drop (h := h) hx)
            obtain ⟨cc, hcc⟩ : ∃ cc, rless x h = cc := ⟨_, rfl⟩
            have HC := Lib.hid hcc
            clear hx hbx hcc
            go_wp2_with fail
            go_region_held3 (fun w' => w'.cell? ⟨w.heap.size, 0, none⟩ = some (.int .i64 h.1) ∧ w'.cell? ⟨w.heap.size, 1, none⟩ = some (.int .i64 h.2) ∧ w'.cell? ⟨b, o + k * 2, none⟩ = some (.int .i64 x.1) ∧ w'.cell? ⟨b, o + k * 2 + 1, none⟩ = some (.int .i64 x.2)) (go_keep) ((go_at_call 30; refine (less_to x h _).mono ?_; rintro e_ w5 ⟨rfl, hu⟩; have HU5 := Lib.hid (HU3.out.drew.trans hu (fun _ h => h.elim)); have hbx := HB2.out.upd HU5.out (fun h => h); have b2_ : w5.cell? ⟨w.heap.size, 0, none⟩ = some (.int .i64 h.1) := hbx.cell 0; have b3_ : w5.cell? ⟨w.heap.size, 1, none⟩ = some (.int .i64 h.2) := hbx.cell 1; have b4_ : w5.cell? ⟨b, o + k * 2, none⟩ = some (.int .i64 x.1) := (hu.cellq (p := ⟨b, o + k * 2, none⟩) hb (fun h => h)).trans c0; have b5_ : w5.cell? ⟨b, o + k * 2 + 1, none⟩ = some (.int .i64 x.2) := (hu.cellq (p := ⟨b, o + k * 2 + 1, none⟩) hb (fun h => h)).trans c1; clear hu hbx))
            rw [HC.out]
            clear b0_ b1_ b2_ b3_ b4_ b5_ c0 c1 hb bl
            cases cc with
            | true =>
              go_wp2
              go_roundw
              case rel => exact ⟨k + 1, by omega, by go_num, Lib.hid (by rw [HRK.out, HD.out, if_pos HC.out]; omega), HU5⟩
              case measure => simp [intOf]; omega
            | false =>
              go_wp2_with fail
              go_meet
              case rel => exact ⟨by rw [HRK.out, HD.out, if_neg (by rw [HC.out]; simp)]; rfl, HU5⟩
          · obtain rfl : k = n := by omega
            go_wp2_with fail
            go_quiet (fail)
            go_wp2_with fail
            go_meet
            case rel => exact ⟨by rw [HRK.out, List.drop_of_length_le (by rw [HL.out]; exact Nat.le_refl _)]; rfl, Lib.hid (HU3.out.drewN _)⟩
      case rest =>
        obtain ⟨rfl, HU3⟩ := hcut
        have HUw := Lib.hid (HU2.out.trans HU3.out (fun _ h => h.elim))
        have HSw := Lib.hid (HS2.out.upd0 HU3.out)
        have HBw := Lib.hid (HB2.out.upd HU3.out (fun h => h))
        have HKN : Hid (rat l h ≤ n) := Lib.hid (by have := rat_le l h; rw [HL.out] at this; exact this)
        have HRES := Lib.hid (rtake_yes HT.out)
        clear HU2 HS2 HB2 HU3
        generalize rat l h = k at *
        have hk : k ≤ n := HKN.out
        obtain ⟨i0, hj, hz0, hz1, hz2⟩ := info_parts infoR
        have HS3 : Hid (Sl (wc.alloc (.cells #[] 24)) A k c (prs (l.take k))) := Lib.hid ((HSw.out.take e2_len k hk).alloc _)
        have HU3 : Hid (Upd (fun _ => False) w (wc.alloc (.cells #[] 24))) := Lib.hid (HUw.out.alloc _)
        obtain ⟨v1, w4, hr1, ho1, hu1⟩ := run_append_sl (P := Try.prog) (wc.alloc (.cells #[] 24)) wc.heap.size 33 33 24 i0 (.agg #[.int .i64 0, .int .i64 0]) 2 16 Try.underlying33 hj hz0 hz1 hz2 rfl (by decide) (.slice (some ⟨wc.heap.size, 0, none⟩) 0 0) 0 [] (own_empty (Blk.new wc #[] 24) (Nat.le_refl _)) A k c (prs (l.take k)) HS3.out (by rw [prs_len, List.length_take, HL.out, Nat.min_eq_left hk]) (prs_one _) (by unfold maxLen; omega) (by omega) (by simp)
        rw [Nat.zero_add, List.nil_append] at ho1
        have HO1 := Lib.hid ho1
        have HU4 : Hid (Upd (fun _ => False) w w4) := Lib.hid (HU3.out.trans hu1 (fun i hi => .inr (by simp only [Value.ownBlock, Option.some.injEq] at hi; subst hi; exact HUw.out.size)))
        have HB4 : Hid (Blk w4 w.heap.size 24 #[.int .i64 h.1, .int .i64 h.2]) := Lib.hid ((HBw.out.alloc _).upd hu1 (fun hi => by simp only [Value.ownBlock, Option.some.injEq] at hi; have := HBw.out.lt; omega))
        have HW4 : Hid (wc.heap.size ≤ w4.heap.size) := Lib.hid (by have := hu1.size; simp at this; omega)
        clear ho1 hu1
        go_upto_region 6 with fail
        go_cut [9] from 34 to 38 (fun v wx => v1 = v ∧ w4 = wx)
        case first =>
          have k0 : (0 : Int) ≤ (k : Int) := Int.natCast_nonneg _
          have k1 : (k : Int) ≤ (n : Int) := by omega
          have hcn : (n : Int) ≤ (c : Int) := by have := HS0.out.le; omega
          have hcm : c ≤ 9223372036854775807 := by have := HS0.out.cm; unfold maxLen at this; omega
          cases A with
          | none =>
            obtain ⟨hn0, hc0⟩ := HS0.out.nil rfl
            subst hn0 hc0
            obtain rfl : k = 0 := by omega
            go_wp2_with (at_builtin; refine wpList_append_run _ rfl _ _ _ rfl rfl rfl hr1 ?_)
            go_meet
            case rel => exact ⟨rfl, rfl⟩
          | some ad =>
            go_wp2_with (at_builtin; refine wpList_append_run _ rfl _ _ _ rfl rfl rfl hr1 ?_)
            go_meet
            case rel => exact ⟨rfl, rfl⟩
        case rest =>
          obtain ⟨rfl, rfl⟩ := hcut
          clear hr1
          have b0_ : w4.cell? ⟨w.heap.size, 0, none⟩ = some (.int .i64 h.1) := HB4.out.cell 0
          have b1_ : w4.cell? ⟨w.heap.size, 1, none⟩ = some (.int .i64 h.2) := HB4.out.cell 1
          have bl := HB4.out.lt
          obtain ⟨v2, w6, hr2, ho2, hu2⟩ := run_append_sl (P := Try.prog) (w4.alloc (.cells #[.int .i64 h.1, .int .i64 h.2] 24)) wc.heap.size 33 33 24 i0 (.agg #[.int .i64 0, .int .i64 0]) 2 16 Try.underlying33 hj hz0 hz1 hz2 rfl (by decide) v1 k (prs (l.take k)) (own_alloc HO1.out _) (some ⟨w4.heap.size, 0, none⟩) 1 1 ([.int .i64 h.1, .int .i64 h.2]) (Sl.one w4 _ _ _) (by simp) (prs_one [h]) (by unfold maxLen; omega) (by omega) (by have := HW4.out; simp; omega)
          replace ho2 : w6.ownsRow wc.heap.size 24 2 v2 (k + 1) (prs (l.take k ++ [h])) := by rw [prs_app]; exact ho2
          have HO2 := Lib.hid ho2
          have HU6 : Hid (Upd (fun _ => False) w w6) := Lib.hid ((HU4.out.alloc _).trans hu2 (fun i hi => .inr (by have := own_ge HO1.out hi; have := HUw.out.size; omega)))
          have HW6 : Hid (w4.heap.size ≤ w6.heap.size) := Lib.hid (by have := hu2.size; simp at this; omega)
          have HS6 := Lib.hid (HS0.out.upd0 HU6.out)
          clear ho2 hu2
          go_upto_region 8 with (at_builtin; refine wpList_append_run _ rfl _ _ _ rfl rfl rfl hr2 ?_)
          have k0 : (0 : Int) ≤ (k : Int) := Int.natCast_nonneg _
          have k1 : (k : Int) ≤ (n : Int) := by omega
          have hcn : (n : Int) ≤ (c : Int) := by have := HS0.out.le; omega
          have hcm : c ≤ 9223372036854775807 := by have := HS0.out.cm; unfold maxLen at this; omega
          cases A with
          | none =>
            obtain ⟨hn0, hc0⟩ := HS0.out.nil rfl
            subst hn0 hc0
            obtain rfl : k = 0 := by omega
            obtain ⟨v3, w8, hr3, ho3, hu3⟩ := run_append_sl (P := Try.prog) w6 wc.heap.size 33 33 24 i0 (.agg #[.int .i64 0, .int .i64 0]) 2 16 Try.underlying33 hj hz0 hz1 hz2 rfl (by decide) v2 (0 + 1) (prs (l.take 0 ++ [h])) HO2.out none 0 0 (prs (l.drop 0)) (HS6.out.drop_cap 0 (Nat.le_refl _) rfl HL.out) (by rw [prs_len, List.length_drop, HL.out]) (prs_one _) (by unfold maxLen; omega) (by omega) (by have h1 := HU6.out.size; have h2 := HW4.out; have h3 := HW6.out; omega)
            obtain ⟨A3, c3, rfl, hs3, _⟩ := Sl.of_own ho3
            have HS8 := Lib.hid hs3
            have HU8 : Hid (Upd (fun _ => False) w w8) := Lib.hid (HU6.out.trans hu3 (fun i hi => .inr (by have := own_ge HO2.out hi; have := HUw.out.size; omega)))
            clear ho3 hu3 hs3
            go_wp2_with (at_builtin; refine wpList_append_run _ rfl _ _ _ rfl rfl rfl hr3 ?_)
            exact bodyPost_ret (v := .tuple #[.slice A3 (0 + 1 + 0) c3, .bool true]) (by simp [results, Try.results23, go_sem]) rfl ⟨A3, 0 + 1 + 0, c3, by rw [HT.out], by rw [HRES.out]; simp [HL.out] <;> omega, by rw [HRES.out]; have := HS8.out; rw [← prs_app] at this; simpa using this, HU8.out⟩
          | some ad =>
            by_cases hc : c = k
            · subst hc
              obtain rfl : n = c := by omega
              obtain ⟨v3, w8, hr3, ho3, hu3⟩ := run_append_sl (P := Try.prog) w6 wc.heap.size 33 33 24 i0 (.agg #[.int .i64 0, .int .i64 0]) 2 16 Try.underlying33 hj hz0 hz1 hz2 rfl (by decide) v2 (n + 1) (prs (l.take n ++ [h])) HO2.out (some ad) 0 0 (prs (l.drop n)) (HS6.out.drop_cap n (Nat.le_refl _) rfl HL.out) (by rw [prs_len, List.length_drop, HL.out, Nat.sub_self]) (prs_one _) (by unfold maxLen; omega) (by omega) (by have h1 := HU6.out.size; have h2 := HW4.out; have h3 := HW6.out; omega)
              obtain ⟨A3, c3, rfl, hs3, _⟩ := Sl.of_own ho3
              have HS8 := Lib.hid hs3
              have HU8 : Hid (Upd (fun _ => False) w w8) := Lib.hid (HU6.out.trans hu3 (fun i hi => .inr (by have := own_ge HO2.out hi; have := HUw.out.size; omega)))
              clear ho3 hu3 hs3
              go_wp2_with (at_builtin; refine wpList_append_run _ rfl _ _ _ rfl rfl rfl hr3 ?_)
              exact bodyPost_ret (v := .tuple #[.slice A3 (n + 1 + 0) c3, .bool true]) (by simp [results, Try.results23, go_sem]) rfl ⟨A3, n + 1 + 0, c3, by rw [HT.out], by rw [HRES.out]; simp [HL.out] <;> omega, by rw [HRES.out]; have := HS8.out; rw [← prs_app] at this; simpa using this, HU8.out⟩
            · have hc1 : ¬ (c : Int) = (k : Int) := by omega
              obtain ⟨v3, w8, hr3, ho3, hu3⟩ := run_append_sl (P := Try.prog) w6 wc.heap.size 33 33 24 i0 (.agg #[.int .i64 0, .int .i64 0]) 2 16 Try.underlying33 hj hz0 hz1 hz2 rfl (by decide) v2 (k + 1) (prs (l.take k ++ [h])) HO2.out (some (ad.add (k * 2))) (n - k) (c - k) (prs (l.drop k)) (HS6.out.drop e2_len k hk) (by rw [prs_len, List.length_drop, HL.out]) (prs_one _) (by unfold maxLen; omega) (by omega) (by have h1 := HU6.out.size; have h2 := HW4.out; have h3 := HW6.out; omega)
              obtain ⟨A3, c3, rfl, hs3, _⟩ := Sl.of_own ho3
              have HS8 := Lib.hid hs3
              have HU8 : Hid (Upd (fun _ => False) w w8) := Lib.hid (HU6.out.trans hu3 (fun i hi => .inr (by have := own_ge HO2.out hi; have := HUw.out.size; omega)))
              clear ho3 hu3 hs3
              go_wp2_with (at_builtin; refine wpList_append_run _ rfl _ _ _ rfl rfl rfl hr3 ?_)
              exact bodyPost_ret (v := .tuple #[.slice A3 (k + 1 + (n - k)) c3, .bool true]) (by simp [results, Try.results23, go_sem]) rfl ⟨A3, k + 1 + (n - k), c3, by rw [HT.out], by rw [HRES.out]; simp [HL.out] <;> omega, by rw [HRES.out]; have := HS8.out; rw [← prs_app] at this; simpa using this, HU8.out⟩

end Go.Proofs.Ytkhdgdbbhbphiaa
