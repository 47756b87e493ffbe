/- CallOver. -/
import Derived.Test.YtilpcgipjfegcaaWg
namespace Go.Proofs.Ytilpcgipjfegcaa
open Go.RowKit
set_option linter.unusedVariables false
set_option linter.unusedSimpArgs false

set_option maxHeartbeats 4000000 in
set_option maxRecDepth 100000 in
theorem callover_any (A M : Option Addr) (n c m d : Nat) (st sp cs sa p r : Int) (xs : List Int) (ms : List (Int × Int)) (hn : xs.length = n) (hm : ms.length = m) (hn1 : n ≤ 9223372036854775807) (hm1 : m ≤ 9223372036854775807) (w : World) (ha : Sl w A n c (nums xs)) (hs : Sl w M m d (prs ms)) :
    Calls Try.prog 7 #[.agg #[.slice A n c, .slice M m d, .int .i64 st, .int .i64 sp, .int .i64 cs, .int .u64 sa], .agg #[.int .i64 p, .int .i64 r]] w fun e w' => e = .returned (.bool true) ∧ Below w.heap.size w w' := by
  have HN := Lib.hid hn
  have HM := Lib.hid hm
  have HAw := Lib.hid ha
  have HSw := Lib.hid hs
  have HA0 := Lib.hid ((ha.alloc (.cells #[.slice A n c, .slice M m d, .int .i64 st, .int .i64 sp, .int .i64 cs, .int .u64 sa] 28)).alloc (.cells #[.int .i64 p, .int .i64 r] 49))
  have HS0 := Lib.hid ((hs.alloc (.cells #[.slice A n c, .slice M m d, .int .i64 st, .int .i64 sp, .int .i64 cs, .int .u64 sa] 28)).alloc (.cells #[.int .i64 p, .int .i64 r] 49))
  have BC0 := Lib.hid ((Blk.new w #[.slice A n c, .slice M m d, .int .i64 st, .int .i64 sp, .int .i64 cs, .int .u64 sa] 28).alloc (.cells #[.int .i64 p, .int .i64 r] 49))
  have AR0 := Lib.hid (Blk.new1 w (.cells #[.slice A n c, .slice M m d, .int .i64 st, .int .i64 sp, .int .i64 cs, .int .u64 sa] 28) #[.int .i64 p, .int .i64 r] 49)
  have U0 : Hid (Upd (fun _ => False) w _) := Lib.hid (((Upd.refl (fun _ => False) w).alloc (.cells #[.slice A n c, .slice M m d, .int .i64 st, .int .i64 sp, .int .i64 cs, .int .u64 sa] 28)).alloc (.cells #[.int .i64 p, .int .i64 r] 49))
  clear ha hs hn hm
  go_enter Try.func7, Try.ntmps7
  go_wp2_with fail
  refine (awake_any _).mono ?_
  rintro e w1 ⟨rfl, hd⟩
  have hu := Upd.of_below hd (fun _ => False)
  have HA1 := Lib.hid (HA0.out.upd0 hu)
  have HS1 := Lib.hid (HS0.out.upd0 hu)
  have BC1 := Lib.hid (BC0.out.upd hu (fun h => h))
  have U1 := Lib.hid (U0.out.trans hu (fun _ h => h.elim))
  have AR1 := Lib.hid (AR0.out.upd hu (fun h => h))
  clear AR0 hd hu HA0 HS0 BC0 U0
  have y0 : w1.cell? ⟨w.heap.size, 0, none⟩ = some (.slice A n c) := BC1.out.cell 0
  have y1 : w1.cell? ⟨w.heap.size, 1, none⟩ = some (.slice M m d) := BC1.out.cell 1
  have y2 : w1.cell? ⟨w.heap.size, 2, none⟩ = some (.int .i64 st) := BC1.out.cell 2
  have y3 : w1.cell? ⟨w.heap.size, 3, none⟩ = some (.int .i64 sp) := BC1.out.cell 3
  have y4 : w1.cell? ⟨w.heap.size, 4, none⟩ = some (.int .i64 cs) := BC1.out.cell 4
  have y5 : w1.cell? ⟨w.heap.size, 5, none⟩ = some (.int .u64 sa) := BC1.out.cell 5
  have ly := BC1.out.lt
  go_wp2_with fail
  by_cases hf : n ≤ 50 ∧ m ≤ 50
  · obtain ⟨hf1, hf2⟩ := id hf
    refine (few_to (b := true) (by simp [hf.1, hf.2]) hn1 hm1 _).mono ?_
    rintro e w2 ⟨rfl, hd⟩
    have hu : Upd (fun _ => False) w1 w2 := Upd.of_below hd (fun _ => False)
    have HA2 := Lib.hid (HA1.out.upd0 hu)
    have HS2 := Lib.hid (HS1.out.upd0 hu)
    have BC2 := Lib.hid (BC1.out.upd hu (fun h => h))
    have U2 := Lib.hid (U1.out.trans hu (fun _ h => h.elim))
    have AR2 := Lib.hid (AR1.out.upd hu (fun h => h))
    clear AR1 hd hu HA1 HS1 BC1 U1 y0 y1 y2 y3 y4 y5 ly
    have y0 : w2.cell? ⟨w.heap.size, 0, none⟩ = some (.slice A n c) := BC2.out.cell 0
    have y1 : w2.cell? ⟨w.heap.size, 1, none⟩ = some (.slice M m d) := BC2.out.cell 1
    have y2 : w2.cell? ⟨w.heap.size, 2, none⟩ = some (.int .i64 st) := BC2.out.cell 2
    have y3 : w2.cell? ⟨w.heap.size, 3, none⟩ = some (.int .i64 sp) := BC2.out.cell 3
    have y4 : w2.cell? ⟨w.heap.size, 4, none⟩ = some (.int .i64 cs) := BC2.out.cell 4
    have y5 : w2.cell? ⟨w.heap.size, 5, none⟩ = some (.int .u64 sa) := BC2.out.cell 5
    have ly := BC2.out.lt
    go_wp2_with fail
    refine wp_region_inv (by kernel_rfl) (by kernel_rfl) (bgΦ w.heap.size w2.heap.size A n c m M d st sp cs sa ms) bgΦ_stab ?_ ?_
    · intro j o k ho hne hk a w' hF hD
      have hBB := (BC2.out.drew).upd hF.upd (fun h => h)
      have b0 : w'.cell? ⟨w.heap.size, 0, none⟩ = some (.slice A n c) := hBB.cell 0
      have b1 : w'.cell? ⟨w.heap.size, 1, none⟩ = some (.slice M m d) := hBB.cell 1
      have b2 : w'.cell? ⟨w.heap.size, 2, none⟩ = some (.int .i64 st) := hBB.cell 2
      have b3 : w'.cell? ⟨w.heap.size, 3, none⟩ = some (.int .i64 sp) := hBB.cell 3
      have b4 : w'.cell? ⟨w.heap.size, 4, none⟩ = some (.int .i64 cs) := hBB.cell 4
      have b5 : w'.cell? ⟨w.heap.size, 5, none⟩ = some (.int .u64 sa) := hBB.cell 5
      have e8 : a.tmps.getD 2 undef = .pointer (some ⟨w.heap.size, 0, none⟩) := hF.keep 2 (by kernel_rfl)
      have hbs : w2.heap.size ≤ w'.heap.size := by have := hF.upd.size; simpa using this
      have hbs' : w.heap.size < w'.heap.size := hBB.lt
      have hj7 : j < 7 := by
        have := (Array.getElem?_eq_some_iff.1 ho).1
        simp at this hne
        omega
      rcases j with _ | _ | _ | _ | _ | _ | _ | j
      all_goals (try (exfalso; omega))
      all_goals simp at ho
      all_goals subst ho
      all_goals simp at hk
      all_goals (try subst hk)
      · skip
        unfold Oper.wp
        go_simp
        exact ⟨_, rfl, Upd.refl _ _, rfl⟩
      · skip
        have f0 : a.tmps.getD 21 undef = .agg #[.slice A n c, .slice M m d, .int .i64 st, .int .i64 sp, .int .i64 cs, .int .u64 sa] := hD ⟨0, .data⟩ (by simp) rfl _ _ rfl rfl
        have HSL := Lib.hid (HS2.out.drew.upd0 hF.upd)
        clear hD
        unfold Oper.wp
        go_simp
        refine (cmade_own A M n c m d st sp cs sa ms HM.out (by omega) _ HSL.out).mono ?_
        rintro e w3 ⟨M', d', rfl, ho, hd⟩
        exact ⟨_, rfl, Upd.of_below hd _, ⟨M', d', rfl, ho⟩⟩
      · skip
        obtain ⟨M', d', f1, ob, ho⟩ : bgΦ w.heap.size w2.heap.size A n c m M d st sp cs sa ms 1 (a.tmps.getD 22 undef) w' := hD ⟨1, .data⟩ (by simp) rfl _ _ rfl rfl
        unfold Oper.wp
        go_simp
        exact ⟨_, rfl, Upd.refl _ _, ⟨M', d', rfl, ob, ho⟩⟩
      · skip
        unfold Oper.wp
        go_simp
        exact ⟨_, rfl, Upd.refl _ _, rfl⟩
      · skip
        have f3 : a.tmps.getD 24 undef = .pointer (some ⟨w.heap.size, 5, none⟩) := hD ⟨3, .data⟩ (by simp) rfl _ _ rfl rfl
        unfold Oper.wp
        go_simp
        exact ⟨_, rfl, Upd.refl _ _, rfl⟩
      · skip
        obtain ⟨M', d', f2, ob, ho⟩ : bgΦ w.heap.size w2.heap.size A n c m M d st sp cs sa ms 2 (a.tmps.getD 23 undef) w' := hD ⟨2, .data⟩ (by simp) rfl _ _ rfl rfl
        have f4 : a.tmps.getD 25 undef = .int .u64 sa := hD ⟨4, .data⟩ (by simp) rfl _ _ rfl rfl
        have HO := Lib.hid ho
        clear hD ho
        unfold Oper.wp
        go_simp
        refine (begin_any A M' n c m d' sa _).mono ?_
        rintro e w3 ⟨rfl, hd⟩
        exact ⟨_, rfl, Upd.of_below hd _, ⟨M', d', rfl, ob, own_upd0 HO.out (Upd.of_below hd _)⟩⟩
      · skip
        unfold Oper.wp
        go_simp
        exact ⟨_, rfl, (Upd.refl _ _).alloc _, ⟨w'.heap.size, rfl, hbs, Blk.new _ _ _⟩⟩
    · intro o ho a w' hF hD
      have h5 : bgΦ w.heap.size w2.heap.size A n c m M d st sp cs sa ms 5 (a.tmps.getD 26 undef) w' := hD 5 _ _ rfl (by simp) rfl
      have h6 : bgΦ w.heap.size w2.heap.size A n c m M d st sp cs sa ms 6 (a.tmps.getD 6 undef) w' := hD 6 _ _ rfl (by simp) rfl
      obtain ⟨X, e0, e5, ob, ow⟩ := h5
      obtain ⟨gx, e6, hg, hbg⟩ := h6
      have OO := Lib.hid ow
      have hcg := hbg.cell
      have hfg := hbg.frz
      have hlg := hbg.lt
      have HGB := Lib.hid hbg
      have HF := Lib.hid hF
      have HU := Lib.hid (((Upd.refl (fun _ => False) w2).drew).trans hF.upd (fun _ h => h.elim))
      have HG := Lib.hid hg
      clear ow hbg hF hD hg
      simp at ho
      subst ho
      unfold Oper.wp
      go_simp
      rename_i hK1
      refine hK1 _ _ ?_
      clear hK1
      rw [HF.out.act [false, false, false, false, false, false, true, false, false, false, false, false, false, false, false, false, false, false, false, false, false, true, true, true, true, true, true, false, false, false, false, false, false, false, false, false, false, false, false, false, false, false, false, false, false, false, false, false, false, false, false, false, false, false, false, false, false, false, false, false, false, false, false, false, false, false, false, false, false, false, false, false, false, false, false, false, false, false, false, false, false, false, false, false, false, false, false] (by kernel_rfl)]
      simp only [pickv, Nat.reduceAdd, Nat.zero_add, e6]
      clear e6 e5 HF
      generalize a.tmps.getD 21 undef = u21
      generalize a.tmps.getD 22 undef = u22
      generalize a.tmps.getD 23 undef = u23
      generalize a.tmps.getD 24 undef = u24
      generalize a.tmps.getD 25 undef = u25
      generalize a.tmps.getD 26 undef = u26
      have QN3 : Hid (Blk ((((((w'.setCell ⟨gx, 0, none⟩ (.slice A n c)).setCell ⟨gx, 1, none⟩ (.slice X m e0)).setCell ⟨gx, 2, none⟩ (.int .i64 1)).setCell ⟨gx, 3, none⟩ (.int .i64 0)).setCell ⟨gx, 4, none⟩ (.int .i64 0)).setCell ⟨gx, 5, none⟩ (.int .u64 sa)) gx 38 #[.slice A n c, .slice X m e0, .int .i64 1, .int .i64 0, .int .i64 0, .int .u64 sa]) := Lib.hid (HGB.out.set6 (.slice A n c) (.slice X m e0) (.int .i64 1) (.int .i64 0) (.int .i64 0) (.int .u64 sa))
      have QS3 : Hid (Sl ((((((w'.setCell ⟨gx, 0, none⟩ (.slice A n c)).setCell ⟨gx, 1, none⟩ (.slice X m e0)).setCell ⟨gx, 2, none⟩ (.int .i64 1)).setCell ⟨gx, 3, none⟩ (.int .i64 0)).setCell ⟨gx, 4, none⟩ (.int .i64 0)).setCell ⟨gx, 5, none⟩ (.int .u64 sa)) X m e0 (prs ms)) := Lib.hid (own_set6 OO.out HGB.out (by decide) (.slice A n c) (.slice X m e0) (.int .i64 1) (.int .i64 0) (.int .i64 0) (.int .u64 sa))
      have Q3 : Hid (Upd (fun _ => False) w2 ((((((w'.setCell ⟨gx, 0, none⟩ (.slice A n c)).setCell ⟨gx, 1, none⟩ (.slice X m e0)).setCell ⟨gx, 2, none⟩ (.int .i64 1)).setCell ⟨gx, 3, none⟩ (.int .i64 0)).setCell ⟨gx, 4, none⟩ (.int .i64 0)).setCell ⟨gx, 5, none⟩ (.int .u64 sa))) := Lib.hid (HU.out.set6 (.inr HG.out) (.slice A n c) (.slice X m e0) (.int .i64 1) (.int .i64 0) (.int .i64 0) (.int .u64 sa))
      have HGX : Hid (w.heap.size < gx) := Lib.hid (Nat.lt_of_lt_of_le BC2.out.lt HG.out)
      have HX : Hid (∀ b o, X = some ⟨b, o, none⟩ → b = gx → False) := Lib.hid (fun b o e h => own_sep OO.out HGB.out (by decide) (by rw [e, h]; rfl))
      have HGY : Hid (w.heap.size + 1 < gx) := Lib.hid (Nat.lt_of_lt_of_le AR2.out.lt HG.out)
      generalize ((((((w'.setCell ⟨gx, 0, none⟩ (.slice A n c)).setCell ⟨gx, 1, none⟩ (.slice X m e0)).setCell ⟨gx, 2, none⟩ (.int .i64 1)).setCell ⟨gx, 3, none⟩ (.int .i64 0)).setCell ⟨gx, 4, none⟩ (.int .i64 0)).setCell ⟨gx, 5, none⟩ (.int .u64 sa)) = w3 at QN3 QS3 Q3 ⊢
      clear OO HGB HU hcg hfg hlg HG
      have U3 := Lib.hid (U2.out.trans Q3.out (fun _ h => h.elim))
      have BC3 := Lib.hid (BC2.out.upd Q3.out (fun h => h))
      have HA3 := Lib.hid (HA2.out.upd0 Q3.out)
      have HS3 := Lib.hid (HS2.out.upd0 Q3.out)
      have AR3 := Lib.hid (AR2.out.upd Q3.out (fun h => h))
      clear AR2
      clear y0 y1 y2 y3 y4 y5 ly Q3 U2 BC2 HA2 HS2
      have BCc0 : w3.cell? ⟨w.heap.size, 0, none⟩ = some (.slice A n c) := BC3.out.cell 0
      have BCc1 : w3.cell? ⟨w.heap.size, 1, none⟩ = some (.slice M m d) := BC3.out.cell 1
      have BCc2 : w3.cell? ⟨w.heap.size, 2, none⟩ = some (.int .i64 st) := BC3.out.cell 2
      have BCc3 : w3.cell? ⟨w.heap.size, 3, none⟩ = some (.int .i64 sp) := BC3.out.cell 3
      have BCc4 : w3.cell? ⟨w.heap.size, 4, none⟩ = some (.int .i64 cs) := BC3.out.cell 4
      have BCc5 : w3.cell? ⟨w.heap.size, 5, none⟩ = some (.int .u64 sa) := BC3.out.cell 5
      have BCl : w.heap.size < w3.heap.size := BC3.out.lt
      have QNc0 : w3.cell? ⟨gx, 0, none⟩ = some (.slice A n c) := QN3.out.cell 0
      have QNc1 : w3.cell? ⟨gx, 1, none⟩ = some (.slice X m e0) := QN3.out.cell 1
      have QNc2 : w3.cell? ⟨gx, 2, none⟩ = some (.int .i64 1) := QN3.out.cell 2
      have QNc3 : w3.cell? ⟨gx, 3, none⟩ = some (.int .i64 0) := QN3.out.cell 3
      have QNc4 : w3.cell? ⟨gx, 4, none⟩ = some (.int .i64 0) := QN3.out.cell 4
      have QNc5 : w3.cell? ⟨gx, 5, none⟩ = some (.int .u64 sa) := QN3.out.cell 5
      have QNl : gx < w3.heap.size := QN3.out.lt
      have ARc0 : w3.cell? ⟨w.heap.size + 1, 0, none⟩ = some (.int .i64 p) := AR3.out.cell 0
      have ARc1 : w3.cell? ⟨w.heap.size + 1, 1, none⟩ = some (.int .i64 r) := AR3.out.cell 1
      have ARl : w.heap.size + 1 < w3.heap.size := AR3.out.lt
      go_wp2_with fail
      clear BCc0 BCc1 BCc2 BCc3 BCc4 BCc5 BCl QNc0 QNc1 QNc2 QNc3 QNc4 QNc5 QNl ARc0 ARc1 ARl
      refine (end_any A X n c m e0 1 0 0 sa (st2 := 4) (sp2 := 0) (cs2 := 0) (sa2 := sa) (ok := true) (by simp [cend]) _).mono ?_
      rintro e w4 ⟨rfl, hd⟩
      have hu := Upd.of_below hd (fun _ => False)
      have BC4 := Lib.hid (BC3.out.upd hu (fun h => h))
      have QN4 := Lib.hid (QN3.out.upd hu (fun h => h))
      have AR4 := Lib.hid (AR3.out.upd hu (fun h => h))
      have HA4 := Lib.hid (HA3.out.upd0 hu)
      have HS4 := Lib.hid (HS3.out.upd0 hu)
      have QS4 := Lib.hid (QS3.out.upd0 hu)
      have U4 := Lib.hid (U3.out.trans hu (fun _ h => h.elim))
      clear hd hu BC3 QN3 AR3 HA3 HS3 QS3 U3
      have BCc0 : w4.cell? ⟨w.heap.size, 0, none⟩ = some (.slice A n c) := BC4.out.cell 0
      have BCc1 : w4.cell? ⟨w.heap.size, 1, none⟩ = some (.slice M m d) := BC4.out.cell 1
      have BCc2 : w4.cell? ⟨w.heap.size, 2, none⟩ = some (.int .i64 st) := BC4.out.cell 2
      have BCc3 : w4.cell? ⟨w.heap.size, 3, none⟩ = some (.int .i64 sp) := BC4.out.cell 3
      have BCc4 : w4.cell? ⟨w.heap.size, 4, none⟩ = some (.int .i64 cs) := BC4.out.cell 4
      have BCc5 : w4.cell? ⟨w.heap.size, 5, none⟩ = some (.int .u64 sa) := BC4.out.cell 5
      have BCl : w.heap.size < w4.heap.size := BC4.out.lt
      have QNc0 : w4.cell? ⟨gx, 0, none⟩ = some (.slice A n c) := QN4.out.cell 0
      have QNc1 : w4.cell? ⟨gx, 1, none⟩ = some (.slice X m e0) := QN4.out.cell 1
      have QNc2 : w4.cell? ⟨gx, 2, none⟩ = some (.int .i64 1) := QN4.out.cell 2
      have QNc3 : w4.cell? ⟨gx, 3, none⟩ = some (.int .i64 0) := QN4.out.cell 3
      have QNc4 : w4.cell? ⟨gx, 4, none⟩ = some (.int .i64 0) := QN4.out.cell 4
      have QNc5 : w4.cell? ⟨gx, 5, none⟩ = some (.int .u64 sa) := QN4.out.cell 5
      have QNl : gx < w4.heap.size := QN4.out.lt
      have ARc0 : w4.cell? ⟨w.heap.size + 1, 0, none⟩ = some (.int .i64 p) := AR4.out.cell 0
      have ARc1 : w4.cell? ⟨w.heap.size + 1, 1, none⟩ = some (.int .i64 r) := AR4.out.cell 1
      have ARl : w.heap.size + 1 < w4.heap.size := AR4.out.lt
      have QNf := QN4.out.frz
      go_wp2_with fail
      clear BCc0 BCc1 BCc2 BCc3 BCc4 BCc5 BCl QNc0 QNc1 QNc2 QNc3 QNc4 QNc5 QNl ARc0 ARc1 ARl QNf
      refine Calls.gen (fun W => Blk W (w.heap.size) 28 #[.slice A n c, .slice M m d, .int .i64 st, .int .i64 sp, .int .i64 cs, .int .u64 sa] ∧ Blk W (gx) 38 #[.slice A n c, .slice X m e0, .int .i64 4, .int .i64 0, .int .i64 0, .int .u64 sa] ∧ Blk W (w.heap.size + 1) 49 #[.int .i64 p, .int .i64 r] ∧ Sl W A n c (nums xs) ∧ Sl W M m d (prs ms) ∧ Sl W X m e0 (prs ms) ∧ Upd (fun _ => False) w W) ⟨(BC4.out.upd ((Upd.refl (At (gx)) w4).set6 (.inl rfl) (.slice A n c) (.slice X m e0) (.int .i64 4) (.int .i64 0) (.int .i64 0) (.int .u64 sa)) (fun h => absurd h (Nat.ne_of_lt HGX.out))), (QN4.out.set6 (.slice A n c) (.slice X m e0) (.int .i64 4) (.int .i64 0) (.int .i64 0) (.int .u64 sa)), (AR4.out.upd ((Upd.refl (At (gx)) w4).set6 (.inl rfl) (.slice A n c) (.slice X m e0) (.int .i64 4) (.int .i64 0) (.int .i64 0) (.int .u64 sa)) (fun h => absurd h (Nat.ne_of_lt HGY.out))), (HAw.out.upd0 (U4.out.set6 (.inr (Nat.le_of_lt HGX.out)) (.slice A n c) (.slice X m e0) (.int .i64 4) (.int .i64 0) (.int .i64 0) (.int .u64 sa))), (HSw.out.upd0 (U4.out.set6 (.inr (Nat.le_of_lt HGX.out)) (.slice A n c) (.slice X m e0) (.int .i64 4) (.int .i64 0) (.int .i64 0) (.int .u64 sa))), (QS4.out.upd ((Upd.refl (At (gx)) w4).set6 (.inl rfl) (.slice A n c) (.slice X m e0) (.int .i64 4) (.int .i64 0) (.int .i64 0) (.int .u64 sa)) (fun b o e h => HX.out b o e h)), (U4.out.set6 (.inr (Nat.le_of_lt HGX.out)) (.slice A n c) (.slice X m e0) (.int .i64 4) (.int .i64 0) (.int .i64 0) (.int .u64 sa))⟩ ?_
      rintro w5 ⟨qBC, qQN, qAR, qHA, qHS, qQS, qU⟩
      have BC5 := Lib.hid qBC
      have QN5 := Lib.hid qQN
      have AR5 := Lib.hid qAR
      have HA5 := Lib.hid qHA
      have HS5 := Lib.hid qHS
      have QS5 := Lib.hid qQS
      have U5 := Lib.hid qU
      clear qBC qQN qAR qHA qHS qQS qU BC4 QN4 AR4 HA4 HS4 QS4 U4
      have BCc0 : w5.cell? ⟨w.heap.size, 0, none⟩ = some (.slice A n c) := BC5.out.cell 0
      have BCc1 : w5.cell? ⟨w.heap.size, 1, none⟩ = some (.slice M m d) := BC5.out.cell 1
      have BCc2 : w5.cell? ⟨w.heap.size, 2, none⟩ = some (.int .i64 st) := BC5.out.cell 2
      have BCc3 : w5.cell? ⟨w.heap.size, 3, none⟩ = some (.int .i64 sp) := BC5.out.cell 3
      have BCc4 : w5.cell? ⟨w.heap.size, 4, none⟩ = some (.int .i64 cs) := BC5.out.cell 4
      have BCc5 : w5.cell? ⟨w.heap.size, 5, none⟩ = some (.int .u64 sa) := BC5.out.cell 5
      have BCl : w.heap.size < w5.heap.size := BC5.out.lt
      have QNc0 : w5.cell? ⟨gx, 0, none⟩ = some (.slice A n c) := QN5.out.cell 0
      have QNc1 : w5.cell? ⟨gx, 1, none⟩ = some (.slice X m e0) := QN5.out.cell 1
      have QNc2 : w5.cell? ⟨gx, 2, none⟩ = some (.int .i64 4) := QN5.out.cell 2
      have QNc3 : w5.cell? ⟨gx, 3, none⟩ = some (.int .i64 0) := QN5.out.cell 3
      have QNc4 : w5.cell? ⟨gx, 4, none⟩ = some (.int .i64 0) := QN5.out.cell 4
      have QNc5 : w5.cell? ⟨gx, 5, none⟩ = some (.int .u64 sa) := QN5.out.cell 5
      have QNl : gx < w5.heap.size := QN5.out.lt
      have ARc0 : w5.cell? ⟨w.heap.size + 1, 0, none⟩ = some (.int .i64 p) := AR5.out.cell 0
      have ARc1 : w5.cell? ⟨w.heap.size + 1, 1, none⟩ = some (.int .i64 r) := AR5.out.cell 1
      have ARl : w.heap.size + 1 < w5.heap.size := AR5.out.lt
      clear BCc0 BCc1 BCc2 BCc3 BCc4 BCc5 BCl QNc0 QNc1 QNc2 QNc3 QNc4 QNc5 QNl ARc0 ARc1 ARl
      refine (run_any A X n c m e0 4 0 0 sa (st2 := 4) (sp2 := 0) (cs2 := 0) (sa2 := sa) (ok := false) (by simp [crun]) _).mono ?_
      rintro e w6 ⟨rfl, hd⟩
      have hu := Upd.of_below hd (fun _ => False)
      have BC6 := Lib.hid (BC5.out.upd hu (fun h => h))
      have QN6 := Lib.hid (QN5.out.upd hu (fun h => h))
      have AR6 := Lib.hid (AR5.out.upd hu (fun h => h))
      have HA6 := Lib.hid (HA5.out.upd0 hu)
      have HS6 := Lib.hid (HS5.out.upd0 hu)
      have QS6 := Lib.hid (QS5.out.upd0 hu)
      have U6 := Lib.hid (U5.out.trans hu (fun _ h => h.elim))
      clear hd hu BC5 QN5 AR5 HA5 HS5 QS5 U5
      have BCc0 : w6.cell? ⟨w.heap.size, 0, none⟩ = some (.slice A n c) := BC6.out.cell 0
      have BCc1 : w6.cell? ⟨w.heap.size, 1, none⟩ = some (.slice M m d) := BC6.out.cell 1
      have BCc2 : w6.cell? ⟨w.heap.size, 2, none⟩ = some (.int .i64 st) := BC6.out.cell 2
      have BCc3 : w6.cell? ⟨w.heap.size, 3, none⟩ = some (.int .i64 sp) := BC6.out.cell 3
      have BCc4 : w6.cell? ⟨w.heap.size, 4, none⟩ = some (.int .i64 cs) := BC6.out.cell 4
      have BCc5 : w6.cell? ⟨w.heap.size, 5, none⟩ = some (.int .u64 sa) := BC6.out.cell 5
      have BCl : w.heap.size < w6.heap.size := BC6.out.lt
      have QNc0 : w6.cell? ⟨gx, 0, none⟩ = some (.slice A n c) := QN6.out.cell 0
      have QNc1 : w6.cell? ⟨gx, 1, none⟩ = some (.slice X m e0) := QN6.out.cell 1
      have QNc2 : w6.cell? ⟨gx, 2, none⟩ = some (.int .i64 4) := QN6.out.cell 2
      have QNc3 : w6.cell? ⟨gx, 3, none⟩ = some (.int .i64 0) := QN6.out.cell 3
      have QNc4 : w6.cell? ⟨gx, 4, none⟩ = some (.int .i64 0) := QN6.out.cell 4
      have QNc5 : w6.cell? ⟨gx, 5, none⟩ = some (.int .u64 sa) := QN6.out.cell 5
      have QNl : gx < w6.heap.size := QN6.out.lt
      have ARc0 : w6.cell? ⟨w.heap.size + 1, 0, none⟩ = some (.int .i64 p) := AR6.out.cell 0
      have ARc1 : w6.cell? ⟨w.heap.size + 1, 1, none⟩ = some (.int .i64 r) := AR6.out.cell 1
      have ARl : w.heap.size + 1 < w6.heap.size := AR6.out.lt
      go_wp2_with fail
      clear BCc0 BCc1 BCc2 BCc3 BCc4 BCc5 BCl QNc0 QNc1 QNc2 QNc3 QNc4 QNc5 QNl ARc0 ARc1 ARl
      refine (fail_any A X n c m e0 4 0 0 sa p r (st2 := 4) (sp2 := 0) (cs2 := 0) (sa2 := sa) (ok := false) (by simp [cfail]) _).mono ?_
      rintro e w7 ⟨rfl, hd⟩
      have hu := Upd.of_below hd (fun _ => False)
      have BC7 := Lib.hid ((BC6.out.alloc _).upd hu (fun h => h))
      have QN7 := Lib.hid ((QN6.out.alloc _).upd hu (fun h => h))
      have AR7 := Lib.hid ((AR6.out.alloc _).upd hu (fun h => h))
      have HA7 := Lib.hid ((HA6.out.alloc _).upd0 hu)
      have HS7 := Lib.hid ((HS6.out.alloc _).upd0 hu)
      have QS7 := Lib.hid ((QS6.out.alloc _).upd0 hu)
      have U7 := Lib.hid ((U6.out.alloc _).trans hu (fun _ h => h.elim))
      have XA7 := Lib.hid ((Blk.new w6 #[.slice A n c, .slice X m e0, .int .i64 4, .int .i64 0, .int .i64 0, .int .u64 sa] 38).upd hu (fun h => h))
      clear hd hu BC6 QN6 AR6 HA6 HS6 QS6 U6
      have BCc0 : w7.cell? ⟨w.heap.size, 0, none⟩ = some (.slice A n c) := BC7.out.cell 0
      have BCc1 : w7.cell? ⟨w.heap.size, 1, none⟩ = some (.slice M m d) := BC7.out.cell 1
      have BCc2 : w7.cell? ⟨w.heap.size, 2, none⟩ = some (.int .i64 st) := BC7.out.cell 2
      have BCc3 : w7.cell? ⟨w.heap.size, 3, none⟩ = some (.int .i64 sp) := BC7.out.cell 3
      have BCc4 : w7.cell? ⟨w.heap.size, 4, none⟩ = some (.int .i64 cs) := BC7.out.cell 4
      have BCc5 : w7.cell? ⟨w.heap.size, 5, none⟩ = some (.int .u64 sa) := BC7.out.cell 5
      have BCl : w.heap.size < w7.heap.size := BC7.out.lt
      have QNc0 : w7.cell? ⟨gx, 0, none⟩ = some (.slice A n c) := QN7.out.cell 0
      have QNc1 : w7.cell? ⟨gx, 1, none⟩ = some (.slice X m e0) := QN7.out.cell 1
      have QNc2 : w7.cell? ⟨gx, 2, none⟩ = some (.int .i64 4) := QN7.out.cell 2
      have QNc3 : w7.cell? ⟨gx, 3, none⟩ = some (.int .i64 0) := QN7.out.cell 3
      have QNc4 : w7.cell? ⟨gx, 4, none⟩ = some (.int .i64 0) := QN7.out.cell 4
      have QNc5 : w7.cell? ⟨gx, 5, none⟩ = some (.int .u64 sa) := QN7.out.cell 5
      have QNl : gx < w7.heap.size := QN7.out.lt
      have ARc0 : w7.cell? ⟨w.heap.size + 1, 0, none⟩ = some (.int .i64 p) := AR7.out.cell 0
      have ARc1 : w7.cell? ⟨w.heap.size + 1, 1, none⟩ = some (.int .i64 r) := AR7.out.cell 1
      have ARl : w.heap.size + 1 < w7.heap.size := AR7.out.lt
      have XAc0 : w7.cell? ⟨w6.heap.size, 0, none⟩ = some (.slice A n c) := XA7.out.cell 0
      have XAc1 : w7.cell? ⟨w6.heap.size, 1, none⟩ = some (.slice X m e0) := XA7.out.cell 1
      have XAc2 : w7.cell? ⟨w6.heap.size, 2, none⟩ = some (.int .i64 4) := XA7.out.cell 2
      have XAc3 : w7.cell? ⟨w6.heap.size, 3, none⟩ = some (.int .i64 0) := XA7.out.cell 3
      have XAc4 : w7.cell? ⟨w6.heap.size, 4, none⟩ = some (.int .i64 0) := XA7.out.cell 4
      have XAc5 : w7.cell? ⟨w6.heap.size, 5, none⟩ = some (.int .u64 sa) := XA7.out.cell 5
      have XAl : w6.heap.size < w7.heap.size := XA7.out.lt
      go_wp2_with fail
      clear BCc0 BCc1 BCc2 BCc3 BCc4 BCc5 BCl QNc0 QNc1 QNc2 QNc3 QNc4 QNc5 QNl ARc0 ARc1 ARl XAc0 XAc1 XAc2 XAc3 XAc4 XAc5 XAl
      refine (end_any A X n c m e0 4 0 0 sa (st2 := 4) (sp2 := 0) (cs2 := 0) (sa2 := sa) (ok := false) (by simp [cend]) _).mono ?_
      rintro e w8 ⟨rfl, hd⟩
      have hu := Upd.of_below hd (fun _ => False)
      have BC8 := Lib.hid ((BC7.out.alloc _).upd hu (fun h => h))
      have QN8 := Lib.hid ((QN7.out.alloc _).upd hu (fun h => h))
      have AR8 := Lib.hid ((AR7.out.alloc _).upd hu (fun h => h))
      have XA8 := Lib.hid ((XA7.out.alloc _).upd hu (fun h => h))
      have HA8 := Lib.hid ((HA7.out.alloc _).upd0 hu)
      have HS8 := Lib.hid ((HS7.out.alloc _).upd0 hu)
      have QS8 := Lib.hid ((QS7.out.alloc _).upd0 hu)
      have U8 := Lib.hid ((U7.out.alloc _).trans hu (fun _ h => h.elim))
      have XB8 := Lib.hid ((Blk.new w7 #[.slice A n c, .slice X m e0, .int .i64 4, .int .i64 0, .int .i64 0, .int .u64 sa] 38).upd hu (fun h => h))
      clear hd hu BC7 QN7 AR7 XA7 HA7 HS7 QS7 U7
      have BCc0 : w8.cell? ⟨w.heap.size, 0, none⟩ = some (.slice A n c) := BC8.out.cell 0
      have BCc1 : w8.cell? ⟨w.heap.size, 1, none⟩ = some (.slice M m d) := BC8.out.cell 1
      have BCc2 : w8.cell? ⟨w.heap.size, 2, none⟩ = some (.int .i64 st) := BC8.out.cell 2
      have BCc3 : w8.cell? ⟨w.heap.size, 3, none⟩ = some (.int .i64 sp) := BC8.out.cell 3
      have BCc4 : w8.cell? ⟨w.heap.size, 4, none⟩ = some (.int .i64 cs) := BC8.out.cell 4
      have BCc5 : w8.cell? ⟨w.heap.size, 5, none⟩ = some (.int .u64 sa) := BC8.out.cell 5
      have BCl : w.heap.size < w8.heap.size := BC8.out.lt
      have QNc0 : w8.cell? ⟨gx, 0, none⟩ = some (.slice A n c) := QN8.out.cell 0
      have QNc1 : w8.cell? ⟨gx, 1, none⟩ = some (.slice X m e0) := QN8.out.cell 1
      have QNc2 : w8.cell? ⟨gx, 2, none⟩ = some (.int .i64 4) := QN8.out.cell 2
      have QNc3 : w8.cell? ⟨gx, 3, none⟩ = some (.int .i64 0) := QN8.out.cell 3
      have QNc4 : w8.cell? ⟨gx, 4, none⟩ = some (.int .i64 0) := QN8.out.cell 4
      have QNc5 : w8.cell? ⟨gx, 5, none⟩ = some (.int .u64 sa) := QN8.out.cell 5
      have QNl : gx < w8.heap.size := QN8.out.lt
      have ARc0 : w8.cell? ⟨w.heap.size + 1, 0, none⟩ = some (.int .i64 p) := AR8.out.cell 0
      have ARc1 : w8.cell? ⟨w.heap.size + 1, 1, none⟩ = some (.int .i64 r) := AR8.out.cell 1
      have ARl : w.heap.size + 1 < w8.heap.size := AR8.out.lt
      have XAc0 : w8.cell? ⟨w6.heap.size, 0, none⟩ = some (.slice A n c) := XA8.out.cell 0
      have XAc1 : w8.cell? ⟨w6.heap.size, 1, none⟩ = some (.slice X m e0) := XA8.out.cell 1
      have XAc2 : w8.cell? ⟨w6.heap.size, 2, none⟩ = some (.int .i64 4) := XA8.out.cell 2
      have XAc3 : w8.cell? ⟨w6.heap.size, 3, none⟩ = some (.int .i64 0) := XA8.out.cell 3
      have XAc4 : w8.cell? ⟨w6.heap.size, 4, none⟩ = some (.int .i64 0) := XA8.out.cell 4
      have XAc5 : w8.cell? ⟨w6.heap.size, 5, none⟩ = some (.int .u64 sa) := XA8.out.cell 5
      have XAl : w6.heap.size < w8.heap.size := XA8.out.lt
      have XBc0 : w8.cell? ⟨w7.heap.size, 0, none⟩ = some (.slice A n c) := XB8.out.cell 0
      have XBc1 : w8.cell? ⟨w7.heap.size, 1, none⟩ = some (.slice X m e0) := XB8.out.cell 1
      have XBc2 : w8.cell? ⟨w7.heap.size, 2, none⟩ = some (.int .i64 4) := XB8.out.cell 2
      have XBc3 : w8.cell? ⟨w7.heap.size, 3, none⟩ = some (.int .i64 0) := XB8.out.cell 3
      have XBc4 : w8.cell? ⟨w7.heap.size, 4, none⟩ = some (.int .i64 0) := XB8.out.cell 4
      have XBc5 : w8.cell? ⟨w7.heap.size, 5, none⟩ = some (.int .u64 sa) := XB8.out.cell 5
      have XBl : w7.heap.size < w8.heap.size := XB8.out.lt
      clear HGX HGY HX HAw HSw
      go_wp2_with fail
      clear BCc0 BCc1 BCc2 BCc3 BCc4 BCc5 BCl QNc0 QNc1 QNc2 QNc3 QNc4 QNc5 QNl ARc0 ARc1 ARl XAc0 XAc1 XAc2 XAc3 XAc4 XAc5 XAl XBc0 XBc1 XBc2 XBc3 XBc4 XBc5 XBl
      refine (csame_any 4 0 0 sa HN.out HM.out (by omega) (by omega) _ ((HA8.out.alloc _).alloc _) ((QS8.out.alloc _).alloc _) ((HA8.out.alloc _).alloc _) ((HS8.out.alloc _).alloc _)).mono ?_
      rintro e w9 ⟨rfl, hd⟩
      have hu := Upd.of_below hd (fun _ => False)
      have BC9 := Lib.hid (((BC8.out.alloc _).alloc _).upd hu (fun h => h))
      have XA9 := Lib.hid (((XA8.out.alloc _).alloc _).upd hu (fun h => h))
      have XB9 := Lib.hid (((XB8.out.alloc _).alloc _).upd hu (fun h => h))
      have HA9 := Lib.hid (((HA8.out.alloc _).alloc _).upd0 hu)
      have HS9 := Lib.hid (((HS8.out.alloc _).alloc _).upd0 hu)
      have QS9 := Lib.hid (((QS8.out.alloc _).alloc _).upd0 hu)
      have U9 := Lib.hid (((U8.out.alloc _).alloc _).trans hu (fun _ h => h.elim))
      have XD9 := Lib.hid (((Blk.new w8 #[.slice A n c, .slice X m e0, .int .i64 4, .int .i64 0, .int .i64 0, .int .u64 sa] 38).alloc _).upd hu (fun h => h))
      have WT9 := Lib.hid ((Blk.new1 w8 _ #[.slice A n c, .slice M m d, .int .i64 4, .int .i64 0, .int .i64 0, .int .u64 sa] 28).upd hu (fun h => h))
      clear hd hu BC8 XA8 XB8 HA8 HS8 QS8 U8
      have BCc0 : w9.cell? ⟨w.heap.size, 0, none⟩ = some (.slice A n c) := BC9.out.cell 0
      have BCc1 : w9.cell? ⟨w.heap.size, 1, none⟩ = some (.slice M m d) := BC9.out.cell 1
      have BCc2 : w9.cell? ⟨w.heap.size, 2, none⟩ = some (.int .i64 st) := BC9.out.cell 2
      have BCc3 : w9.cell? ⟨w.heap.size, 3, none⟩ = some (.int .i64 sp) := BC9.out.cell 3
      have BCc4 : w9.cell? ⟨w.heap.size, 4, none⟩ = some (.int .i64 cs) := BC9.out.cell 4
      have BCc5 : w9.cell? ⟨w.heap.size, 5, none⟩ = some (.int .u64 sa) := BC9.out.cell 5
      have BCl : w.heap.size < w9.heap.size := BC9.out.lt
      have XAc0 : w9.cell? ⟨w6.heap.size, 0, none⟩ = some (.slice A n c) := XA9.out.cell 0
      have XAc1 : w9.cell? ⟨w6.heap.size, 1, none⟩ = some (.slice X m e0) := XA9.out.cell 1
      have XAc2 : w9.cell? ⟨w6.heap.size, 2, none⟩ = some (.int .i64 4) := XA9.out.cell 2
      have XAc3 : w9.cell? ⟨w6.heap.size, 3, none⟩ = some (.int .i64 0) := XA9.out.cell 3
      have XAc4 : w9.cell? ⟨w6.heap.size, 4, none⟩ = some (.int .i64 0) := XA9.out.cell 4
      have XAc5 : w9.cell? ⟨w6.heap.size, 5, none⟩ = some (.int .u64 sa) := XA9.out.cell 5
      have XAl : w6.heap.size < w9.heap.size := XA9.out.lt
      have XBc0 : w9.cell? ⟨w7.heap.size, 0, none⟩ = some (.slice A n c) := XB9.out.cell 0
      have XBc1 : w9.cell? ⟨w7.heap.size, 1, none⟩ = some (.slice X m e0) := XB9.out.cell 1
      have XBc2 : w9.cell? ⟨w7.heap.size, 2, none⟩ = some (.int .i64 4) := XB9.out.cell 2
      have XBc3 : w9.cell? ⟨w7.heap.size, 3, none⟩ = some (.int .i64 0) := XB9.out.cell 3
      have XBc4 : w9.cell? ⟨w7.heap.size, 4, none⟩ = some (.int .i64 0) := XB9.out.cell 4
      have XBc5 : w9.cell? ⟨w7.heap.size, 5, none⟩ = some (.int .u64 sa) := XB9.out.cell 5
      have XBl : w7.heap.size < w9.heap.size := XB9.out.lt
      have XDc0 : w9.cell? ⟨w8.heap.size, 0, none⟩ = some (.slice A n c) := XD9.out.cell 0
      have XDc1 : w9.cell? ⟨w8.heap.size, 1, none⟩ = some (.slice X m e0) := XD9.out.cell 1
      have XDc2 : w9.cell? ⟨w8.heap.size, 2, none⟩ = some (.int .i64 4) := XD9.out.cell 2
      have XDc3 : w9.cell? ⟨w8.heap.size, 3, none⟩ = some (.int .i64 0) := XD9.out.cell 3
      have XDc4 : w9.cell? ⟨w8.heap.size, 4, none⟩ = some (.int .i64 0) := XD9.out.cell 4
      have XDc5 : w9.cell? ⟨w8.heap.size, 5, none⟩ = some (.int .u64 sa) := XD9.out.cell 5
      have XDl : w8.heap.size < w9.heap.size := XD9.out.lt
      have WTc0 : w9.cell? ⟨w8.heap.size + 1, 0, none⟩ = some (.slice A n c) := WT9.out.cell 0
      have WTc1 : w9.cell? ⟨w8.heap.size + 1, 1, none⟩ = some (.slice M m d) := WT9.out.cell 1
      have WTc2 : w9.cell? ⟨w8.heap.size + 1, 2, none⟩ = some (.int .i64 4) := WT9.out.cell 2
      have WTc3 : w9.cell? ⟨w8.heap.size + 1, 3, none⟩ = some (.int .i64 0) := WT9.out.cell 3
      have WTc4 : w9.cell? ⟨w8.heap.size + 1, 4, none⟩ = some (.int .i64 0) := WT9.out.cell 4
      have WTc5 : w9.cell? ⟨w8.heap.size + 1, 5, none⟩ = some (.int .u64 sa) := WT9.out.cell 5
      have WTl : w8.heap.size + 1 < w9.heap.size := WT9.out.lt
      go_wp2_with fail
      clear BCc0 BCc1 BCc2 BCc3 BCc4 BCc5 BCl XAc0 XAc1 XAc2 XAc3 XAc4 XAc5 XAl XBc0 XBc1 XBc2 XBc3 XBc4 XBc5 XBl XDc0 XDc1 XDc2 XDc3 XDc4 XDc5 XDl WTc0 WTc1 WTc2 WTc3 WTc4 WTc5 WTl
      refine (csame_any 4 0 0 sa HN.out HM.out (by omega) (by omega) _ HA9.out QS9.out HA9.out HS9.out).mono ?_
      rintro e w10 ⟨rfl, hd⟩
      have hu := Upd.of_below hd (fun _ => False)
      have BC10 := Lib.hid (BC9.out.upd hu (fun h => h))
      have XA10 := Lib.hid (XA9.out.upd hu (fun h => h))
      have XB10 := Lib.hid (XB9.out.upd hu (fun h => h))
      have XD10 := Lib.hid (XD9.out.upd hu (fun h => h))
      have WT10 := Lib.hid (WT9.out.upd hu (fun h => h))
      have HA10 := Lib.hid (HA9.out.upd0 hu)
      have HS10 := Lib.hid (HS9.out.upd0 hu)
      have QS10 := Lib.hid (QS9.out.upd0 hu)
      have U10 := Lib.hid (U9.out.trans hu (fun _ h => h.elim))
      clear hd hu BC9 XA9 XB9 XD9 WT9 HA9 HS9 QS9 U9
      have BCc0 : w10.cell? ⟨w.heap.size, 0, none⟩ = some (.slice A n c) := BC10.out.cell 0
      have BCc1 : w10.cell? ⟨w.heap.size, 1, none⟩ = some (.slice M m d) := BC10.out.cell 1
      have BCc2 : w10.cell? ⟨w.heap.size, 2, none⟩ = some (.int .i64 st) := BC10.out.cell 2
      have BCc3 : w10.cell? ⟨w.heap.size, 3, none⟩ = some (.int .i64 sp) := BC10.out.cell 3
      have BCc4 : w10.cell? ⟨w.heap.size, 4, none⟩ = some (.int .i64 cs) := BC10.out.cell 4
      have BCc5 : w10.cell? ⟨w.heap.size, 5, none⟩ = some (.int .u64 sa) := BC10.out.cell 5
      have BCl : w.heap.size < w10.heap.size := BC10.out.lt
      have XAc0 : w10.cell? ⟨w6.heap.size, 0, none⟩ = some (.slice A n c) := XA10.out.cell 0
      have XAc1 : w10.cell? ⟨w6.heap.size, 1, none⟩ = some (.slice X m e0) := XA10.out.cell 1
      have XAc2 : w10.cell? ⟨w6.heap.size, 2, none⟩ = some (.int .i64 4) := XA10.out.cell 2
      have XAc3 : w10.cell? ⟨w6.heap.size, 3, none⟩ = some (.int .i64 0) := XA10.out.cell 3
      have XAc4 : w10.cell? ⟨w6.heap.size, 4, none⟩ = some (.int .i64 0) := XA10.out.cell 4
      have XAc5 : w10.cell? ⟨w6.heap.size, 5, none⟩ = some (.int .u64 sa) := XA10.out.cell 5
      have XAl : w6.heap.size < w10.heap.size := XA10.out.lt
      have XBc0 : w10.cell? ⟨w7.heap.size, 0, none⟩ = some (.slice A n c) := XB10.out.cell 0
      have XBc1 : w10.cell? ⟨w7.heap.size, 1, none⟩ = some (.slice X m e0) := XB10.out.cell 1
      have XBc2 : w10.cell? ⟨w7.heap.size, 2, none⟩ = some (.int .i64 4) := XB10.out.cell 2
      have XBc3 : w10.cell? ⟨w7.heap.size, 3, none⟩ = some (.int .i64 0) := XB10.out.cell 3
      have XBc4 : w10.cell? ⟨w7.heap.size, 4, none⟩ = some (.int .i64 0) := XB10.out.cell 4
      have XBc5 : w10.cell? ⟨w7.heap.size, 5, none⟩ = some (.int .u64 sa) := XB10.out.cell 5
      have XBl : w7.heap.size < w10.heap.size := XB10.out.lt
      have XDc0 : w10.cell? ⟨w8.heap.size, 0, none⟩ = some (.slice A n c) := XD10.out.cell 0
      have XDc1 : w10.cell? ⟨w8.heap.size, 1, none⟩ = some (.slice X m e0) := XD10.out.cell 1
      have XDc2 : w10.cell? ⟨w8.heap.size, 2, none⟩ = some (.int .i64 4) := XD10.out.cell 2
      have XDc3 : w10.cell? ⟨w8.heap.size, 3, none⟩ = some (.int .i64 0) := XD10.out.cell 3
      have XDc4 : w10.cell? ⟨w8.heap.size, 4, none⟩ = some (.int .i64 0) := XD10.out.cell 4
      have XDc5 : w10.cell? ⟨w8.heap.size, 5, none⟩ = some (.int .u64 sa) := XD10.out.cell 5
      have XDl : w8.heap.size < w10.heap.size := XD10.out.lt
      have WTc0 : w10.cell? ⟨w8.heap.size + 1, 0, none⟩ = some (.slice A n c) := WT10.out.cell 0
      have WTc1 : w10.cell? ⟨w8.heap.size + 1, 1, none⟩ = some (.slice M m d) := WT10.out.cell 1
      have WTc2 : w10.cell? ⟨w8.heap.size + 1, 2, none⟩ = some (.int .i64 4) := WT10.out.cell 2
      have WTc3 : w10.cell? ⟨w8.heap.size + 1, 3, none⟩ = some (.int .i64 0) := WT10.out.cell 3
      have WTc4 : w10.cell? ⟨w8.heap.size + 1, 4, none⟩ = some (.int .i64 0) := WT10.out.cell 4
      have WTc5 : w10.cell? ⟨w8.heap.size + 1, 5, none⟩ = some (.int .u64 sa) := WT10.out.cell 5
      have WTl : w8.heap.size + 1 < w10.heap.size := WT10.out.lt
      go_wp2_with fail
      clear BCc0 BCc1 BCc2 BCc3 BCc4 BCc5 BCl XAc0 XAc1 XAc2 XAc3 XAc4 XAc5 XAl XBc0 XBc1 XBc2 XBc3 XBc4 XBc5 XBl XDc0 XDc1 XDc2 XDc3 XDc4 XDc5 XDl WTc0 WTc1 WTc2 WTc3 WTc4 WTc5 WTl
      refine (csame_any 4 0 0 sa HN.out HM.out (by omega) (by omega) _ HA10.out QS10.out HA10.out HS10.out).mono ?_
      rintro e w11 ⟨rfl, hd⟩
      have hu := Upd.of_below hd (fun _ => False)
      have BC11 := Lib.hid (BC10.out.upd hu (fun h => h))
      have XA11 := Lib.hid (XA10.out.upd hu (fun h => h))
      have XB11 := Lib.hid (XB10.out.upd hu (fun h => h))
      have XD11 := Lib.hid (XD10.out.upd hu (fun h => h))
      have WT11 := Lib.hid (WT10.out.upd hu (fun h => h))
      have HA11 := Lib.hid (HA10.out.upd0 hu)
      have HS11 := Lib.hid (HS10.out.upd0 hu)
      have QS11 := Lib.hid (QS10.out.upd0 hu)
      have U11 := Lib.hid (U10.out.trans hu (fun _ h => h.elim))
      clear hd hu BC10 XA10 XB10 XD10 WT10 HA10 HS10 QS10 U10
      have BCc0 : w11.cell? ⟨w.heap.size, 0, none⟩ = some (.slice A n c) := BC11.out.cell 0
      have BCc1 : w11.cell? ⟨w.heap.size, 1, none⟩ = some (.slice M m d) := BC11.out.cell 1
      have BCc2 : w11.cell? ⟨w.heap.size, 2, none⟩ = some (.int .i64 st) := BC11.out.cell 2
      have BCc3 : w11.cell? ⟨w.heap.size, 3, none⟩ = some (.int .i64 sp) := BC11.out.cell 3
      have BCc4 : w11.cell? ⟨w.heap.size, 4, none⟩ = some (.int .i64 cs) := BC11.out.cell 4
      have BCc5 : w11.cell? ⟨w.heap.size, 5, none⟩ = some (.int .u64 sa) := BC11.out.cell 5
      have BCl : w.heap.size < w11.heap.size := BC11.out.lt
      have XAc0 : w11.cell? ⟨w6.heap.size, 0, none⟩ = some (.slice A n c) := XA11.out.cell 0
      have XAc1 : w11.cell? ⟨w6.heap.size, 1, none⟩ = some (.slice X m e0) := XA11.out.cell 1
      have XAc2 : w11.cell? ⟨w6.heap.size, 2, none⟩ = some (.int .i64 4) := XA11.out.cell 2
      have XAc3 : w11.cell? ⟨w6.heap.size, 3, none⟩ = some (.int .i64 0) := XA11.out.cell 3
      have XAc4 : w11.cell? ⟨w6.heap.size, 4, none⟩ = some (.int .i64 0) := XA11.out.cell 4
      have XAc5 : w11.cell? ⟨w6.heap.size, 5, none⟩ = some (.int .u64 sa) := XA11.out.cell 5
      have XAl : w6.heap.size < w11.heap.size := XA11.out.lt
      have XBc0 : w11.cell? ⟨w7.heap.size, 0, none⟩ = some (.slice A n c) := XB11.out.cell 0
      have XBc1 : w11.cell? ⟨w7.heap.size, 1, none⟩ = some (.slice X m e0) := XB11.out.cell 1
      have XBc2 : w11.cell? ⟨w7.heap.size, 2, none⟩ = some (.int .i64 4) := XB11.out.cell 2
      have XBc3 : w11.cell? ⟨w7.heap.size, 3, none⟩ = some (.int .i64 0) := XB11.out.cell 3
      have XBc4 : w11.cell? ⟨w7.heap.size, 4, none⟩ = some (.int .i64 0) := XB11.out.cell 4
      have XBc5 : w11.cell? ⟨w7.heap.size, 5, none⟩ = some (.int .u64 sa) := XB11.out.cell 5
      have XBl : w7.heap.size < w11.heap.size := XB11.out.lt
      have XDc0 : w11.cell? ⟨w8.heap.size, 0, none⟩ = some (.slice A n c) := XD11.out.cell 0
      have XDc1 : w11.cell? ⟨w8.heap.size, 1, none⟩ = some (.slice X m e0) := XD11.out.cell 1
      have XDc2 : w11.cell? ⟨w8.heap.size, 2, none⟩ = some (.int .i64 4) := XD11.out.cell 2
      have XDc3 : w11.cell? ⟨w8.heap.size, 3, none⟩ = some (.int .i64 0) := XD11.out.cell 3
      have XDc4 : w11.cell? ⟨w8.heap.size, 4, none⟩ = some (.int .i64 0) := XD11.out.cell 4
      have XDc5 : w11.cell? ⟨w8.heap.size, 5, none⟩ = some (.int .u64 sa) := XD11.out.cell 5
      have XDl : w8.heap.size < w11.heap.size := XD11.out.lt
      have WTc0 : w11.cell? ⟨w8.heap.size + 1, 0, none⟩ = some (.slice A n c) := WT11.out.cell 0
      have WTc1 : w11.cell? ⟨w8.heap.size + 1, 1, none⟩ = some (.slice M m d) := WT11.out.cell 1
      have WTc2 : w11.cell? ⟨w8.heap.size + 1, 2, none⟩ = some (.int .i64 4) := WT11.out.cell 2
      have WTc3 : w11.cell? ⟨w8.heap.size + 1, 3, none⟩ = some (.int .i64 0) := WT11.out.cell 3
      have WTc4 : w11.cell? ⟨w8.heap.size + 1, 4, none⟩ = some (.int .i64 0) := WT11.out.cell 4
      have WTc5 : w11.cell? ⟨w8.heap.size + 1, 5, none⟩ = some (.int .u64 sa) := WT11.out.cell 5
      have WTl : w8.heap.size + 1 < w11.heap.size := WT11.out.lt
      go_wp2
      go_ret
      exact ⟨rfl, U11.out.below0⟩
  · skip
    refine (few_to (b := false) (by simp at hf ⊢; exact hf) hn1 hm1 _).mono ?_
    rintro e w2 ⟨rfl, hd⟩
    have hu : Upd (fun _ => False) w1 w2 := Upd.of_below hd (fun _ => False)
    have HA2 := Lib.hid (HA1.out.upd0 hu)
    have HS2 := Lib.hid (HS1.out.upd0 hu)
    have BC2 := Lib.hid (BC1.out.upd hu (fun h => h))
    have U2 := Lib.hid (U1.out.trans hu (fun _ h => h.elim))
    have AR2 := Lib.hid (AR1.out.upd hu (fun h => h))
    clear AR1 hd hu HA1 HS1 BC1 U1 y0 y1 y2 y3 y4 y5 ly
    go_wp2
    go_ret
    exact ⟨rfl, U2.out.below0⟩
theorem callover_walk {w : World} (v0 : Value) (w0 : IsCall w v0) (c1 : Array Value) (w1 : Oks [.int .i64, .int .i64] c1.toList) :
    Calls Try.prog 7 #[v0, .agg c1] w fun e w' => e = .returned (.bool true) ∧ Below w.heap.size w w' := by
  obtain ⟨A, n, c, M, m, d, st, sp, cs, sa, xs, ms, rfl, hb⟩ := w0
  obtain ⟨p, r, rfl⟩ := agg_two w1
  exact callover_any A M n c m d st sp cs sa p r xs ms hb.hn hb.hm hb.bn hb.bm w hb.ha hb.hs
end Go.Proofs.Ytilpcgipjfegcaa
