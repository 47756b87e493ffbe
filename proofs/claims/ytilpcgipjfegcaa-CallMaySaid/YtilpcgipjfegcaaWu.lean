/- CallOuts. -/
import Derived.Test.YtilpcgipjfegcaaMc
import Derived.Test.YtilpcgipjfegcaaCr
import Derived.Test.YtilpcgipjfegcaaOs
import Derived.Test.YtilpcgipjfegcaaSa
import Derived.Test.YtilpcgipjfegcaaBc
namespace Go.Proofs.Ytilpcgipjfegcaa
open Go.RowKit
set_option linter.unusedVariables false
set_option linter.unusedSimpArgs false

theorem couts_len (n : Nat) (ms : List (Int × Int)) (cs kind : Int) (vals : List Int) (now : Int) : (couts n ms cs kind vals now).length ≤ ms.length := by
  unfold couts
  split
  · simp
  · split
    · split
      · split
        · rename_i l hl
          simp [psplit_len hl]
        · simp
      · simp
    · simp
set_option maxHeartbeats 4000000 in
set_option maxRecDepth 100000 in
theorem callouts_any (A M V : Option Addr) (n c m d q v : Nat) (st sp cs sa kind : Int) (xs : List Int) (ms : List (Int × Int)) (vals : List Int) (hn : xs.length = n) (hm : ms.length = m) (hv : vals.length = v) (hn1 : n ≤ 9223372036854775807) (hm1 : m ≤ 9223372036854775807) (hv1 : v ≤ 9223372036854775807) (w : World) (ha : Sl w A n c (nums xs)) (hs : Sl w M m d (prs ms)) (hsv : Sl w V v q (nums vals)) :
    Calls Try.prog 3 #[.agg #[.slice A n c, .slice M m d, .int .i64 st, .int .i64 sp, .int .i64 cs, .int .u64 sa], .int .i64 kind, .slice V v q] w fun e w' => e = .returned (.bool true) ∧ Below w.heap.size w w' := by
  have HN := Lib.hid hn
  have HM := Lib.hid hm
  have HAw := Lib.hid ha
  have HSw := Lib.hid hs
  have HV := Lib.hid hv
  have HA0 := Lib.hid (ha.alloc (.cells #[.slice A n c, .slice M m d, .int .i64 st, .int .i64 sp, .int .i64 cs, .int .u64 sa] 28))
  have HS0 := Lib.hid (hs.alloc (.cells #[.slice A n c, .slice M m d, .int .i64 st, .int .i64 sp, .int .i64 cs, .int .u64 sa] 28))
  have HSV0 := Lib.hid (hsv.alloc (.cells #[.slice A n c, .slice M m d, .int .i64 st, .int .i64 sp, .int .i64 cs, .int .u64 sa] 28))
  have BC0 := Lib.hid (Blk.new w #[.slice A n c, .slice M m d, .int .i64 st, .int .i64 sp, .int .i64 cs, .int .u64 sa] 28)
  have U0 : Hid (Upd (fun _ => False) w _) := Lib.hid ((Upd.refl (fun _ => False) w).alloc (.cells #[.slice A n c, .slice M m d, .int .i64 st, .int .i64 sp, .int .i64 cs, .int .u64 sa] 28))
  clear ha hs hn hm hsv hv
  go_enter Try.func3, Try.ntmps3
  go_wp2_with fail
  refine (awake_any _).mono ?_
  rintro e w1 ⟨rfl, hd⟩
  have hu := Upd.of_below hd (fun _ => False)
  have HA1 := Lib.hid (HA0.out.upd0 hu)
  have HS1 := Lib.hid (HS0.out.upd0 hu)
  have HSV1 := Lib.hid (HSV0.out.upd0 hu)
  have BC1 := Lib.hid (BC0.out.upd hu (fun h => h))
  have U1 := Lib.hid (U0.out.trans hu (fun _ h => h.elim))
  clear hd hu HA0 HS0 BC0 U0 HSV0
  have y0 : w1.cell? ⟨w.heap.size, 0, none⟩ = some (.slice A n c) := BC1.out.cell 0
  have y1 : w1.cell? ⟨w.heap.size, 1, none⟩ = some (.slice M m d) := BC1.out.cell 1
  have y2 : w1.cell? ⟨w.heap.size, 2, none⟩ = some (.int .i64 st) := BC1.out.cell 2
  have y3 : w1.cell? ⟨w.heap.size, 3, none⟩ = some (.int .i64 sp) := BC1.out.cell 3
  have y4 : w1.cell? ⟨w.heap.size, 4, none⟩ = some (.int .i64 cs) := BC1.out.cell 4
  have y5 : w1.cell? ⟨w.heap.size, 5, none⟩ = some (.int .u64 sa) := BC1.out.cell 5
  have ly := BC1.out.lt
  go_wp2_with fail
  by_cases hf : n ≤ 50 ∧ m ≤ 50
  · obtain ⟨hf1, hf2⟩ := id hf
    by_cases h60 : v ≤ 60
    · have g60 : ¬ (v : Int) > 60 := by omega
      refine (few_to (b := true) (by simp [hf.1, hf.2]) hn1 hm1 _).mono ?_
      rintro e w2 ⟨rfl, hd⟩
      have hu : Upd (fun _ => False) w1 w2 := Upd.of_below hd (fun _ => False)
      have HA2 := Lib.hid (HA1.out.upd0 hu)
      have HS2 := Lib.hid (HS1.out.upd0 hu)
      have HSV2 := Lib.hid (HSV1.out.upd0 hu)
      have BC2 := Lib.hid (BC1.out.upd hu (fun h => h))
      have U2 := Lib.hid (U1.out.trans hu (fun _ h => h.elim))
      clear hd hu HA1 HS1 BC1 U1 HSV1 y0 y1 y2 y3 y4 y5 ly
      have y0 : w2.cell? ⟨w.heap.size, 0, none⟩ = some (.slice A n c) := BC2.out.cell 0
      have y1 : w2.cell? ⟨w.heap.size, 1, none⟩ = some (.slice M m d) := BC2.out.cell 1
      have y2 : w2.cell? ⟨w.heap.size, 2, none⟩ = some (.int .i64 st) := BC2.out.cell 2
      have y3 : w2.cell? ⟨w.heap.size, 3, none⟩ = some (.int .i64 sp) := BC2.out.cell 3
      have y4 : w2.cell? ⟨w.heap.size, 4, none⟩ = some (.int .i64 cs) := BC2.out.cell 4
      have y5 : w2.cell? ⟨w.heap.size, 5, none⟩ = some (.int .u64 sa) := BC2.out.cell 5
      have ly := BC2.out.lt
      obtain ⟨l, hl⟩ : ∃ l, couts n ms cs kind vals sa = l := ⟨_, rfl⟩
      have HL := Lib.hid hl
      have HLL : Hid (l.length ≤ 1000) := Lib.hid (by
        have := couts_len n ms cs kind vals sa
        rw [hl, HM.out] at this
        omega)
      clear hl
      go_wp2_with fail
      go_region_held3 (fun w' => w'.cell? ⟨w.heap.size, 0, none⟩ = some (.slice A n c) ∧ w'.cell? ⟨w.heap.size, 1, none⟩ = some (.slice M m d) ∧ w'.cell? ⟨w.heap.size, 2, none⟩ = some (.int .i64 st) ∧ w'.cell? ⟨w.heap.size, 3, none⟩ = some (.int .i64 sp) ∧ w'.cell? ⟨w.heap.size, 4, none⟩ = some (.int .i64 cs) ∧ w'.cell? ⟨w.heap.size, 5, none⟩ = some (.int .u64 sa)) (go_keep) (first | (go_at_call 11; refine (rsame_to rfl HLL.out _ HO5.out HP5.out).mono ?_; rintro e w6 ⟨rfl, hd⟩; have hu := Upd.of_below hd (fun _ => False); have HA6 := Lib.hid ((HA5.out).upd0 hu); have U6 := Lib.hid ((U5.out).trans hu (fun _ h => h.elim)); have BC6 := Lib.hid ((BC5.out).upd hu (fun h => h)); have y0_6 : w6.cell? ⟨w.heap.size, 0, none⟩ = some (.slice A n c) := BC6.out.cell 0; have y1_6 : w6.cell? ⟨w.heap.size, 1, none⟩ = some (.slice M m d) := BC6.out.cell 1; have y2_6 : w6.cell? ⟨w.heap.size, 2, none⟩ = some (.int .i64 st) := BC6.out.cell 2; have y3_6 : w6.cell? ⟨w.heap.size, 3, none⟩ = some (.int .i64 sp) := BC6.out.cell 3; have y4_6 : w6.cell? ⟨w.heap.size, 4, none⟩ = some (.int .i64 cs) := BC6.out.cell 4; have y5_6 : w6.cell? ⟨w.heap.size, 5, none⟩ = some (.int .u64 sa) := BC6.out.cell 5; clear hd hu) | (go_at_call 14; refine (routs_to (l := l) HL.out rfl HM.out HV.out (by omega) (by omega) (by omega) _ HS4.out HSV4.out).mono ?_; rintro e w5 ⟨A5, c5, rfl, hs5, hd⟩; have HP5 := Lib.hid hs5; clear hs5; have hu := Upd.of_below hd (fun _ => False); have HA5 := Lib.hid ((HA4.out).upd0 hu); have HS5 := Lib.hid ((HS4.out).upd0 hu); have HSV5 := Lib.hid ((HSV4.out).upd0 hu); have HO5 := Lib.hid ((HO4.out).upd0 hu); have U5 := Lib.hid ((U4.out).trans hu (fun _ h => h.elim)); have BC5 := Lib.hid ((BC4.out).upd hu (fun h => h)); have y0_5 : w5.cell? ⟨w.heap.size, 0, none⟩ = some (.slice A n c) := BC5.out.cell 0; have y1_5 : w5.cell? ⟨w.heap.size, 1, none⟩ = some (.slice M m d) := BC5.out.cell 1; have y2_5 : w5.cell? ⟨w.heap.size, 2, none⟩ = some (.int .i64 st) := BC5.out.cell 2; have y3_5 : w5.cell? ⟨w.heap.size, 3, none⟩ = some (.int .i64 sp) := BC5.out.cell 3; have y4_5 : w5.cell? ⟨w.heap.size, 4, none⟩ = some (.int .i64 cs) := BC5.out.cell 4; have y5_5 : w5.cell? ⟨w.heap.size, 5, none⟩ = some (.int .u64 sa) := BC5.out.cell 5; clear hd hu) | (go_at_call 12; refine (outs_to (l := l) HL.out rfl HM.out HV.out (by omega) (by omega) _ HMS3.out HSV3.out).mono ?_; rintro e w4 ⟨A4, c4, rfl, hs4, hd⟩; have HO4 := Lib.hid hs4; clear hs4; have hu := Upd.of_below hd (fun _ => False); have HA4 := Lib.hid ((HA3.out).upd0 hu); have HS4 := Lib.hid ((HS3.out).upd0 hu); have HSV4 := Lib.hid ((HSV3.out).upd0 hu); have U4 := Lib.hid ((U3.out).trans hu (fun _ h => h.elim)); have BC4 := Lib.hid ((BC3.out).upd hu (fun h => h)); have y0_4 : w4.cell? ⟨w.heap.size, 0, none⟩ = some (.slice A n c) := BC4.out.cell 0; have y1_4 : w4.cell? ⟨w.heap.size, 1, none⟩ = some (.slice M m d) := BC4.out.cell 1; have y2_4 : w4.cell? ⟨w.heap.size, 2, none⟩ = some (.int .i64 st) := BC4.out.cell 2; have y3_4 : w4.cell? ⟨w.heap.size, 3, none⟩ = some (.int .i64 sp) := BC4.out.cell 3; have y4_4 : w4.cell? ⟨w.heap.size, 4, none⟩ = some (.int .i64 cs) := BC4.out.cell 4; have y5_4 : w4.cell? ⟨w.heap.size, 5, none⟩ = some (.int .u64 sa) := BC4.out.cell 5; clear hd hu) | (go_at_call 13; refine (cmade_any A M n c m d st sp cs sa ms HM.out (by omega) _ HS2.out.drew).mono ?_; rintro e w3 ⟨M3, d3, rfl, hs3, hd⟩; have HMS3 := Lib.hid hs3; clear hs3; have hu := Upd.of_below hd (fun _ => False); have HA3 := Lib.hid ((HA2.out.drew).upd0 hu); have HS3 := Lib.hid ((HS2.out.drew).upd0 hu); have HSV3 := Lib.hid ((HSV2.out.drew).upd0 hu); have U3 := Lib.hid ((U2.out.drew).trans hu (fun _ h => h.elim)); have BC3 := Lib.hid ((BC2.out.drew).upd hu (fun h => h)); have y0_3 : w3.cell? ⟨w.heap.size, 0, none⟩ = some (.slice A n c) := BC3.out.cell 0; have y1_3 : w3.cell? ⟨w.heap.size, 1, none⟩ = some (.slice M m d) := BC3.out.cell 1; have y2_3 : w3.cell? ⟨w.heap.size, 2, none⟩ = some (.int .i64 st) := BC3.out.cell 2; have y3_3 : w3.cell? ⟨w.heap.size, 3, none⟩ = some (.int .i64 sp) := BC3.out.cell 3; have y4_3 : w3.cell? ⟨w.heap.size, 4, none⟩ = some (.int .i64 cs) := BC3.out.cell 4; have y5_3 : w3.cell? ⟨w.heap.size, 5, none⟩ = some (.int .u64 sa) := BC3.out.cell 5; clear hd hu))
      go_wp2
      go_ret
      exact ⟨rfl, U6.out.below0⟩
    · have g60 : (v : Int) > 60 := by omega
      refine (few_to (b := true) (by simp [hf.1, hf.2]) hn1 hm1 _).mono ?_
      rintro e w2 ⟨rfl, hd⟩
      have hu : Upd (fun _ => False) w1 w2 := Upd.of_below hd (fun _ => False)
      have HA2 := Lib.hid (HA1.out.upd0 hu)
      have HS2 := Lib.hid (HS1.out.upd0 hu)
      have HSV2 := Lib.hid (HSV1.out.upd0 hu)
      have BC2 := Lib.hid (BC1.out.upd hu (fun h => h))
      have U2 := Lib.hid (U1.out.trans hu (fun _ h => h.elim))
      clear hd hu HA1 HS1 BC1 U1 HSV1 y0 y1 y2 y3 y4 y5 ly
      have y0 : w2.cell? ⟨w.heap.size, 0, none⟩ = some (.slice A n c) := BC2.out.cell 0
      have y1 : w2.cell? ⟨w.heap.size, 1, none⟩ = some (.slice M m d) := BC2.out.cell 1
      have y2 : w2.cell? ⟨w.heap.size, 2, none⟩ = some (.int .i64 st) := BC2.out.cell 2
      have y3 : w2.cell? ⟨w.heap.size, 3, none⟩ = some (.int .i64 sp) := BC2.out.cell 3
      have y4 : w2.cell? ⟨w.heap.size, 4, none⟩ = some (.int .i64 cs) := BC2.out.cell 4
      have y5 : w2.cell? ⟨w.heap.size, 5, none⟩ = some (.int .u64 sa) := BC2.out.cell 5
      have ly := BC2.out.lt
      go_wp2
      go_ret
      exact ⟨rfl, U2.out.below0⟩
  · skip
    refine (few_to (b := false) (by simp at hf ⊢; exact hf) hn1 hm1 _).mono ?_
    rintro e w2 ⟨rfl, hd⟩
    have hu : Upd (fun _ => False) w1 w2 := Upd.of_below hd (fun _ => False)
    have HA2 := Lib.hid (HA1.out.upd0 hu)
    have HS2 := Lib.hid (HS1.out.upd0 hu)
    have HSV2 := Lib.hid (HSV1.out.upd0 hu)
    have BC2 := Lib.hid (BC1.out.upd hu (fun h => h))
    have U2 := Lib.hid (U1.out.trans hu (fun _ h => h.elim))
    clear hd hu HA1 HS1 BC1 U1 HSV1 y0 y1 y2 y3 y4 y5 ly
    go_wp2
    go_ret
    exact ⟨rfl, U2.out.below0⟩
theorem callouts_walk {w : World} (v0 : Value) (w0 : IsCall w v0) (a1 : Int) (w1 : (Lit.int .i64 a1).wf = true) (A2 : Option Addr) (len2 cap2 : Nat) (L2 : List (List Value)) (hL2 : L2.length = len2) (hlc2 : len2 ≤ cap2) (hm2 : cap2 ≤ maxLen) (hn2 : A2 = none → len2 = 0 ∧ cap2 = 0) (hok2 : ∀ row ∈ L2, Oks [.int .i64] row) (hr2 : Rows w A2 1 L2) :
    Calls Try.prog 3 #[v0, .int .i64 a1, .slice A2 len2 cap2] w fun e w' => e = .returned (.bool true) ∧ Below w.heap.size w w' := by
  obtain ⟨A, n, c, M, m, d, st, sp, cs, sa, xs, ms, rfl, hb⟩ := w0
  obtain ⟨vals, hvl, _, hsv⟩ := sl_nums hL2 hlc2 hm2 hn2 hok2 hr2
  unfold maxLen at hm2
  exact callouts_any A M A2 n c m d cap2 len2 st sp cs sa a1 xs ms vals hb.hn hb.hm hvl hb.bn hb.bm (by omega) w hb.ha hb.hs hsv
end Go.Proofs.Ytilpcgipjfegcaa
