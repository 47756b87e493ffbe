/- CallEnds. -/
import Derived.Test.YtilpcgipjfegcaaWg
namespace Go.Proofs.Ytilpcgipjfegcaa
open Go.RowKit
set_option linter.unusedVariables false
set_option linter.unusedSimpArgs false

theorem u8_0 {a : Int} (h : (Lit.int .u8 a).wf = true) : 0 ≤ a := by
  simp only [Lit.wf, Bool.and_eq_true, decide_eq_true_eq] at h
  exact h.1
theorem u8_1 {a : Int} (h : (Lit.int .u8 a).wf = true) : a ≤ 255 := by
  simp only [Lit.wf, Bool.and_eq_true, decide_eq_true_eq] at h
  exact h.2
theorem cf0 (x sa : Int) {N : Nat} (h : 0 < N) : cfail (1, 0, 0, sa) x (N : Int) = ((3, 1, x, sa), true) := by
  unfold cfail
  have : ¬ ((N : Int) ≤ 0) := by omega
  simp [this, wrap64]
  omega
theorem cf1 (x fi sa : Int) {k N : Nat} (h : k < N) (hN : N ≤ 20) : cfail (3, (k : Int), fi, sa) x (N : Int) = ((3, (k : Int) + 1, fi, sa), true) := by
  unfold cfail
  have h1 : ¬ ((N : Int) ≤ (k : Int)) := by omega
  have h2 : wrap64 ((k : Int) + 1) = (k : Int) + 1 := by unfold wrap64; omega
  simp [h1, h2]
theorem cf2 (x fi sa : Int) (N : Nat) : cfail (3, (N : Int), fi, sa) x (N : Int) = ((4, (N : Int), fi, sa), false) := by
  unfold cfail
  simp
theorem chain_of {a : Int} (h0 : 0 ≤ a) (h1 : a ≤ 255) : ∃ N : Nat, wrap64 (a.tmod 20) = (N : Int) ∧ N ≤ 20 := by
  rw [Int.tmod_eq_emod_of_nonneg h0]
  refine ⟨(a % 20).toNat, ?_, by omega⟩
  unfold wrap64
  omega
set_option maxHeartbeats 20000000 in
set_option maxRecDepth 100000 in
theorem callends_any (A M V : Option Addr) (n c m d q v : Nat) (st sp cs sa a : Int) (xs : List Int) (ms : List (Int × Int)) (vals : List Int) (hn : xs.length = n) (hm : ms.length = m) (hv : vals.length = v) (hn1 : n ≤ 9223372036854775807) (hm1 : m ≤ 9223372036854775807) (hv1 : v ≤ 9223372036854775807) (h0 : 0 ≤ a) (h1 : a ≤ 255) (w : World) (ha : Sl w A n c (nums xs)) (hs : Sl w M m d (prs ms)) (hsv : Sl w V v q (nums vals)) :
    Calls Try.prog 4 #[.agg #[.slice A n c, .slice M m d, .int .i64 st, .int .i64 sp, .int .i64 cs, .int .u64 sa], .int .u8 a, .slice V v q] w fun e w' => e = .returned (.bool true) ∧ Below w.heap.size w w' := by
  have HN := Lib.hid hn
  have HSVw := Lib.hid hsv
  have HCH := Lib.hid (chain_of h0 h1)
  clear h0 h1
  have HM := Lib.hid hm
  have HAw := Lib.hid ha
  have HSw := Lib.hid hs
  have HV := Lib.hid hv
  have HA0 := Lib.hid (ha.alloc (.cells #[.slice A n c, .slice M m d, .int .i64 st, .int .i64 sp, .int .i64 cs, .int .u64 sa] 28))
  have HS0 := Lib.hid (hs.alloc (.cells #[.slice A n c, .slice M m d, .int .i64 st, .int .i64 sp, .int .i64 cs, .int .u64 sa] 28))
  have HSV0 := Lib.hid (hsv.alloc (.cells #[.slice A n c, .slice M m d, .int .i64 st, .int .i64 sp, .int .i64 cs, .int .u64 sa] 28))
  have BC0 := Lib.hid (Blk.new w #[.slice A n c, .slice M m d, .int .i64 st, .int .i64 sp, .int .i64 cs, .int .u64 sa] 28)
  have U0 : Hid (Upd (fun _ => False) w _) := Lib.hid ((Upd.refl (fun _ => False) w).alloc (.cells #[.slice A n c, .slice M m d, .int .i64 st, .int .i64 sp, .int .i64 cs, .int .u64 sa] 28))
  clear ha hs hn hm hsv hv
  go_enter Try.func4, Try.ntmps4
  go_wp2_with fail
  refine (awake_any _).mono ?_
  rintro e w1 ⟨rfl, hd⟩
  have hu := Upd.of_below hd (fun _ => False)
  have HA1 := Lib.hid (HA0.out.upd0 hu)
  have HS1 := Lib.hid (HS0.out.upd0 hu)
  have HSV1 := Lib.hid (HSV0.out.upd0 hu)
  have BC1 := Lib.hid (BC0.out.upd hu (fun h => h))
  have U1 := Lib.hid (U0.out.trans hu (fun _ h => h.elim))
  clear hd hu HA0 HS0 BC0 U0 HSV0
  have y0 : w1.cell? ⟨w.heap.size, 0, none⟩ = some (.slice A n c) := BC1.out.cell 0
  have y1 : w1.cell? ⟨w.heap.size, 1, none⟩ = some (.slice M m d) := BC1.out.cell 1
  have y2 : w1.cell? ⟨w.heap.size, 2, none⟩ = some (.int .i64 st) := BC1.out.cell 2
  have y3 : w1.cell? ⟨w.heap.size, 3, none⟩ = some (.int .i64 sp) := BC1.out.cell 3
  have y4 : w1.cell? ⟨w.heap.size, 4, none⟩ = some (.int .i64 cs) := BC1.out.cell 4
  have y5 : w1.cell? ⟨w.heap.size, 5, none⟩ = some (.int .u64 sa) := BC1.out.cell 5
  have ly := BC1.out.lt
  go_wp2_with fail
  by_cases hf : n ≤ 50 ∧ m ≤ 50
  · obtain ⟨hf1, hf2⟩ := id hf
    refine (few_to (b := true) (by simp [hf.1, hf.2]) hn1 hm1 _).mono ?_
    rintro e w2 ⟨rfl, hd⟩
    have hu : Upd (fun _ => False) w1 w2 := Upd.of_below hd (fun _ => False)
    have HA2 := Lib.hid (HA1.out.upd0 hu)
    have HS2 := Lib.hid (HS1.out.upd0 hu)
    have HSV2 := Lib.hid (HSV1.out.upd0 hu)
    have BC2 := Lib.hid (BC1.out.upd hu (fun h => h))
    have U2 := Lib.hid (U1.out.trans hu (fun _ h => h.elim))
    clear hd hu HA1 HS1 BC1 U1 HSV1 y0 y1 y2 y3 y4 y5 ly
    have y0 : w2.cell? ⟨w.heap.size, 0, none⟩ = some (.slice A n c) := BC2.out.cell 0
    have y1 : w2.cell? ⟨w.heap.size, 1, none⟩ = some (.slice M m d) := BC2.out.cell 1
    have y2 : w2.cell? ⟨w.heap.size, 2, none⟩ = some (.int .i64 st) := BC2.out.cell 2
    have y3 : w2.cell? ⟨w.heap.size, 3, none⟩ = some (.int .i64 sp) := BC2.out.cell 3
    have y4 : w2.cell? ⟨w.heap.size, 4, none⟩ = some (.int .i64 cs) := BC2.out.cell 4
    have y5 : w2.cell? ⟨w.heap.size, 5, none⟩ = some (.int .u64 sa) := BC2.out.cell 5
    have ly := BC2.out.lt
    obtain ⟨N, hN, hN20⟩ := HCH.out
    have HNN : Hid (N ≤ 20) := Lib.hid hN20
    clear HCH
    go_wp2_with fail
    refine wp_region_inv (by kernel_rfl) (by kernel_rfl) (bgΦ w.heap.size w2.heap.size A n c m M d st sp cs sa ms) bgΦ_stab ?_ ?_
    · intro j o k ho hne hk a w' hF hD
      have hBB := (BC2.out.drew).upd hF.upd (fun h => h)
      have b0 : w'.cell? ⟨w.heap.size, 0, none⟩ = some (.slice A n c) := hBB.cell 0
      have b1 : w'.cell? ⟨w.heap.size, 1, none⟩ = some (.slice M m d) := hBB.cell 1
      have b2 : w'.cell? ⟨w.heap.size, 2, none⟩ = some (.int .i64 st) := hBB.cell 2
      have b3 : w'.cell? ⟨w.heap.size, 3, none⟩ = some (.int .i64 sp) := hBB.cell 3
      have b4 : w'.cell? ⟨w.heap.size, 4, none⟩ = some (.int .i64 cs) := hBB.cell 4
      have b5 : w'.cell? ⟨w.heap.size, 5, none⟩ = some (.int .u64 sa) := hBB.cell 5
      have e8 : a.tmps.getD 3 undef = .pointer (some ⟨w.heap.size, 0, none⟩) := hF.keep 3 (by kernel_rfl)
      have hbs : w2.heap.size ≤ w'.heap.size := by have := hF.upd.size; simpa using this
      have hbs' : w.heap.size < w'.heap.size := hBB.lt
      have hj7 : j < 7 := by
        have := (Array.getElem?_eq_some_iff.1 ho).1
        simp at this hne
        omega
      rcases j with _ | _ | _ | _ | _ | _ | _ | j
      all_goals (try (exfalso; omega))
      all_goals simp at ho
      all_goals subst ho
      all_goals simp at hk
      all_goals (try subst hk)
      · skip
        unfold Oper.wp
        go_simp
        exact ⟨_, rfl, Upd.refl _ _, rfl⟩
      · skip
        have f0 : a.tmps.getD 28 undef = .agg #[.slice A n c, .slice M m d, .int .i64 st, .int .i64 sp, .int .i64 cs, .int .u64 sa] := hD ⟨0, .data⟩ (by simp) rfl _ _ rfl rfl
        have HSL := Lib.hid (HS2.out.drew.upd0 hF.upd)
        clear hD
        unfold Oper.wp
        go_simp
        refine (cmade_own A M n c m d st sp cs sa ms HM.out (by omega) _ HSL.out).mono ?_
        rintro e w3 ⟨M', d', rfl, ho, hd⟩
        exact ⟨_, rfl, Upd.of_below hd _, ⟨M', d', rfl, ho⟩⟩
      · skip
        obtain ⟨M', d', f1, ob, ho⟩ : bgΦ w.heap.size w2.heap.size A n c m M d st sp cs sa ms 1 (a.tmps.getD 29 undef) w' := hD ⟨1, .data⟩ (by simp) rfl _ _ rfl rfl
        unfold Oper.wp
        go_simp
        exact ⟨_, rfl, Upd.refl _ _, ⟨M', d', rfl, ob, ho⟩⟩
      · skip
        unfold Oper.wp
        go_simp
        exact ⟨_, rfl, Upd.refl _ _, rfl⟩
      · skip
        have f3 : a.tmps.getD 31 undef = .pointer (some ⟨w.heap.size, 5, none⟩) := hD ⟨3, .data⟩ (by simp) rfl _ _ rfl rfl
        unfold Oper.wp
        go_simp
        exact ⟨_, rfl, Upd.refl _ _, rfl⟩
      · skip
        obtain ⟨M', d', f2, ob, ho⟩ : bgΦ w.heap.size w2.heap.size A n c m M d st sp cs sa ms 2 (a.tmps.getD 30 undef) w' := hD ⟨2, .data⟩ (by simp) rfl _ _ rfl rfl
        have f4 : a.tmps.getD 32 undef = .int .u64 sa := hD ⟨4, .data⟩ (by simp) rfl _ _ rfl rfl
        have HO := Lib.hid ho
        clear hD ho
        unfold Oper.wp
        go_simp
        refine (begin_any A M' n c m d' sa _).mono ?_
        rintro e w3 ⟨rfl, hd⟩
        exact ⟨_, rfl, Upd.of_below hd _, ⟨M', d', rfl, ob, own_upd0 HO.out (Upd.of_below hd _)⟩⟩
      · skip
        unfold Oper.wp
        go_simp
        exact ⟨_, rfl, (Upd.refl _ _).alloc _, ⟨w'.heap.size, rfl, hbs, Blk.new _ _ _⟩⟩
    · intro o ho a w' hF hD
      have h5 : bgΦ w.heap.size w2.heap.size A n c m M d st sp cs sa ms 5 (a.tmps.getD 33 undef) w' := hD 5 _ _ rfl (by simp) rfl
      have h6 : bgΦ w.heap.size w2.heap.size A n c m M d st sp cs sa ms 6 (a.tmps.getD 9 undef) w' := hD 6 _ _ rfl (by simp) rfl
      obtain ⟨X, e0, e5, ob, ow⟩ := h5
      obtain ⟨gx, e6, hg, hbg⟩ := h6
      have OO := Lib.hid ow
      have hcg := hbg.cell
      have hfg := hbg.frz
      have hlg := hbg.lt
      have HGB := Lib.hid hbg
      have HF := Lib.hid hF
      have HU := Lib.hid (((Upd.refl (fun _ => False) w2).drew).trans hF.upd (fun _ h => h.elim))
      have HG := Lib.hid hg
      clear ow hbg hF hD hg
      simp at ho
      subst ho
      unfold Oper.wp
      go_simp
      rename_i hK1
      refine hK1 _ _ ?_
      clear hK1
      rw [HF.out.act [false, false, false, false, false, false, false, false, false, true, false, false, false, false, false, false, false, false, false, false, false, false, false, false, false, false, false, false, true, true, true, true, true, true, false, false, false, false, false, false, false, false, false, false, false, false, false, false, false, false, false, false, false, false, false, false, false, false, false, false, false, false, false, false, false, false, false, false, false, false, false, false, false, false, false, false, false, false, false, false, false, false, false, false, false, false, false, false, false, false, false, false, false, false, false, false, false, false, false, false, false, false, false, false, false, false, false, false, false, false, false, false, false, false, false, false, false, false, false, false, false, false, false, false, false, false, false, false, false] (by kernel_rfl)]
      simp only [pickv, Nat.reduceAdd, Nat.zero_add, e6]
      clear e6 e5 HF
      generalize a.tmps.getD 28 undef = u28
      generalize a.tmps.getD 29 undef = u29
      generalize a.tmps.getD 30 undef = u30
      generalize a.tmps.getD 31 undef = u31
      generalize a.tmps.getD 32 undef = u32
      generalize a.tmps.getD 33 undef = u33
      have QN3 : Hid (Blk ((((((w'.setCell ⟨gx, 0, none⟩ (.slice A n c)).setCell ⟨gx, 1, none⟩ (.slice X m e0)).setCell ⟨gx, 2, none⟩ (.int .i64 1)).setCell ⟨gx, 3, none⟩ (.int .i64 0)).setCell ⟨gx, 4, none⟩ (.int .i64 0)).setCell ⟨gx, 5, none⟩ (.int .u64 sa)) gx 38 #[.slice A n c, .slice X m e0, .int .i64 1, .int .i64 0, .int .i64 0, .int .u64 sa]) := Lib.hid (HGB.out.set6 (.slice A n c) (.slice X m e0) (.int .i64 1) (.int .i64 0) (.int .i64 0) (.int .u64 sa))
      have QS3 : Hid (Sl ((((((w'.setCell ⟨gx, 0, none⟩ (.slice A n c)).setCell ⟨gx, 1, none⟩ (.slice X m e0)).setCell ⟨gx, 2, none⟩ (.int .i64 1)).setCell ⟨gx, 3, none⟩ (.int .i64 0)).setCell ⟨gx, 4, none⟩ (.int .i64 0)).setCell ⟨gx, 5, none⟩ (.int .u64 sa)) X m e0 (prs ms)) := Lib.hid (own_set6 OO.out HGB.out (by decide) (.slice A n c) (.slice X m e0) (.int .i64 1) (.int .i64 0) (.int .i64 0) (.int .u64 sa))
      have Q3 : Hid (Upd (fun _ => False) w2 ((((((w'.setCell ⟨gx, 0, none⟩ (.slice A n c)).setCell ⟨gx, 1, none⟩ (.slice X m e0)).setCell ⟨gx, 2, none⟩ (.int .i64 1)).setCell ⟨gx, 3, none⟩ (.int .i64 0)).setCell ⟨gx, 4, none⟩ (.int .i64 0)).setCell ⟨gx, 5, none⟩ (.int .u64 sa))) := Lib.hid (HU.out.set6 (.inr HG.out) (.slice A n c) (.slice X m e0) (.int .i64 1) (.int .i64 0) (.int .i64 0) (.int .u64 sa))
      have HGX : Hid (w.heap.size < gx) := Lib.hid (Nat.lt_of_lt_of_le BC2.out.lt HG.out)
      have HX : Hid (∀ b o, X = some ⟨b, o, none⟩ → b = gx → False) := Lib.hid (fun b o e h => own_sep OO.out HGB.out (by decide) (by rw [e, h]; rfl))
      generalize ((((((w'.setCell ⟨gx, 0, none⟩ (.slice A n c)).setCell ⟨gx, 1, none⟩ (.slice X m e0)).setCell ⟨gx, 2, none⟩ (.int .i64 1)).setCell ⟨gx, 3, none⟩ (.int .i64 0)).setCell ⟨gx, 4, none⟩ (.int .i64 0)).setCell ⟨gx, 5, none⟩ (.int .u64 sa)) = w3 at QN3 QS3 Q3 ⊢
      clear OO HGB HU hcg hfg hlg HG
      have U3 := Lib.hid (U2.out.trans Q3.out (fun _ h => h.elim))
      have BC3 := Lib.hid (BC2.out.upd Q3.out (fun h => h))
      have HA3 := Lib.hid (HA2.out.upd0 Q3.out)
      have HS3 := Lib.hid (HS2.out.upd0 Q3.out)
      have HSV3 := Lib.hid (HSV2.out.upd0 Q3.out)
      clear y0 y1 y2 y3 y4 y5 ly Q3 U2 BC2 HA2 HS2 HSV2
      rw [hN]
      clear hN hN20
      clear HA3 HS3 HSV3
      go_wp2_with fail
      go_loopw [10, 11] (fun f i wr => Hid (Upd (fun _ => False) w wr) ∧ Hid (Sl wr X m e0 (prs ms)) ∧ Hid (Blk wr (w.heap.size) 28 #[.slice A n c, .slice M m d, .int .i64 st, .int .i64 sp, .int .i64 cs, .int .u64 sa]) ∧ ((i = .int .i64 0 ∧ f = .int .i64 0 ∧ Hid (Blk wr gx 38 #[.slice A n c, .slice X m e0, .int .i64 1, .int .i64 0, .int .i64 0, .int .u64 sa])) ∨ ∃ (k : Nat) (fi : Int), 1 ≤ k ∧ k ≤ N ∧ i = .int .i64 k ∧ f = .int .i64 fi ∧ Hid (Blk wr gx 38 #[.slice A n c, .slice X m e0, .int .i64 3, .int .i64 (k : Int), .int .i64 fi, .int .u64 sa]))) (fun f i _ => N - (intOf i).toNat)
      case atStart => exact ⟨U3, QS3, BC3, .inl ⟨rfl, rfl, QN3⟩⟩
      case round =>
        obtain ⟨UW, QS, BC, ⟨rfl, rfl, QN⟩ | ⟨k, fi, hk1, hk2, rfl, rfl, QN⟩⟩ := hrel
        · by_cases hlt : 0 < N
          · have g1 : (0 : Int) < (N : Int) := by omega
            by_cases hv0 : 0 < v
            · have g2 : (0 : Int) < (v : Int) := by omega
              obtain ⟨cz, hcz⟩ : ∃ x, vals[0]? = some x := ⟨vals[0]'(by rw [HV.out]; omega), List.getElem?_eq_getElem _⟩
              obtain ⟨vb, vo, ev, hvb, hvc⟩ := (HSVw.out.upd0 UW.out).num hcz
              subst ev
              clear hcz
              simp only [Nat.add_zero] at hvc
              have BCc0 : wr.cell? ⟨w.heap.size, 0, none⟩ = some (.slice A n c) := BC.out.cell 0
              have BCc1 : wr.cell? ⟨w.heap.size, 1, none⟩ = some (.slice M m d) := BC.out.cell 1
              have BCc2 : wr.cell? ⟨w.heap.size, 2, none⟩ = some (.int .i64 st) := BC.out.cell 2
              have BCc3 : wr.cell? ⟨w.heap.size, 3, none⟩ = some (.int .i64 sp) := BC.out.cell 3
              have BCc4 : wr.cell? ⟨w.heap.size, 4, none⟩ = some (.int .i64 cs) := BC.out.cell 4
              have BCc5 : wr.cell? ⟨w.heap.size, 5, none⟩ = some (.int .u64 sa) := BC.out.cell 5
              have BCl : w.heap.size < wr.heap.size := BC.out.lt
              have QNc0 : wr.cell? ⟨gx, 0, none⟩ = some (.slice A n c) := QN.out.cell 0
              have QNc1 : wr.cell? ⟨gx, 1, none⟩ = some (.slice X m e0) := QN.out.cell 1
              have QNc2 : wr.cell? ⟨gx, 2, none⟩ = some (.int .i64 1) := QN.out.cell 2
              have QNc3 : wr.cell? ⟨gx, 3, none⟩ = some (.int .i64 0) := QN.out.cell 3
              have QNc4 : wr.cell? ⟨gx, 4, none⟩ = some (.int .i64 0) := QN.out.cell 4
              have QNc5 : wr.cell? ⟨gx, 5, none⟩ = some (.int .u64 sa) := QN.out.cell 5
              have QNl : gx < wr.heap.size := QN.out.lt
              go_wp2_with fail
              refine (fail_any A X n c m e0 1 0 0 sa cz (N : Int) (cf0 cz sa (by omega)) _).mono ?_
              rintro e w5 ⟨rfl, hd⟩
              clear BCc0 BCc1 BCc2 BCc3 BCc4 BCc5 QNc0 QNc1 QNc2 QNc3 QNc4 QNc5 BCl QNl hvb hvc
              clear g2 hv0
              have hu := Upd.of_below hd (fun _ => False)
              have QN5 := Lib.hid (QN.out.upd hu (fun h => h))
              have BC5 := Lib.hid (BC.out.upd hu (fun h => h))
              have QS5 := Lib.hid (QS.out.upd0 hu)
              have U5 := Lib.hid (UW.out.trans hu (fun _ h => h.elim))
              clear hd hu
              have QNf := QN5.out.frz
              have QNc0 : w5.cell? ⟨gx, 0, none⟩ = some (.slice A n c) := QN5.out.cell 0
              have QNc1 : w5.cell? ⟨gx, 1, none⟩ = some (.slice X m e0) := QN5.out.cell 1
              have QNc2 : w5.cell? ⟨gx, 2, none⟩ = some (.int .i64 1) := QN5.out.cell 2
              have QNc3 : w5.cell? ⟨gx, 3, none⟩ = some (.int .i64 0) := QN5.out.cell 3
              have QNc4 : w5.cell? ⟨gx, 4, none⟩ = some (.int .i64 0) := QN5.out.cell 4
              have QNc5 : w5.cell? ⟨gx, 5, none⟩ = some (.int .u64 sa) := QN5.out.cell 5
              have QNl : gx < w5.heap.size := QN5.out.lt
              have UR : Hid (Upd (fun _ => False) w (((((((w5.setCell ⟨gx, 0, none⟩ (.slice A n c)).setCell ⟨gx, 1, none⟩ (.slice X m e0)).setCell ⟨gx, 2, none⟩ (.int .i64 3)).setCell ⟨gx, 3, none⟩ (.int .i64 1)).setCell ⟨gx, 4, none⟩ (.int .i64 cz)).setCell ⟨gx, 5, none⟩ (.int .u64 sa)).alloc (.cells #[.slice A n c, .slice X m e0, .int .i64 3, .int .i64 1, .int .i64 cz, .int .u64 sa] 38))) := Lib.hid ((U5.out.set6 (.inr (Nat.le_of_lt HGX.out)) (.slice A n c) (.slice X m e0) (.int .i64 3) (.int .i64 1) (.int .i64 cz) (.int .u64 sa)).alloc _)
              have SR : Hid (Sl (((((((w5.setCell ⟨gx, 0, none⟩ (.slice A n c)).setCell ⟨gx, 1, none⟩ (.slice X m e0)).setCell ⟨gx, 2, none⟩ (.int .i64 3)).setCell ⟨gx, 3, none⟩ (.int .i64 1)).setCell ⟨gx, 4, none⟩ (.int .i64 cz)).setCell ⟨gx, 5, none⟩ (.int .u64 sa)).alloc (.cells #[.slice A n c, .slice X m e0, .int .i64 3, .int .i64 1, .int .i64 cz, .int .u64 sa] 38)) X m e0 (prs ms)) := Lib.hid ((QS5.out.upd ((Upd.refl (At gx) _).set6 (.inl rfl) (.slice A n c) (.slice X m e0) (.int .i64 3) (.int .i64 1) (.int .i64 cz) (.int .u64 sa)) (fun b o e h => HX.out b o e h)).alloc _)
              have BR : Hid (Blk (((((((w5.setCell ⟨gx, 0, none⟩ (.slice A n c)).setCell ⟨gx, 1, none⟩ (.slice X m e0)).setCell ⟨gx, 2, none⟩ (.int .i64 3)).setCell ⟨gx, 3, none⟩ (.int .i64 1)).setCell ⟨gx, 4, none⟩ (.int .i64 cz)).setCell ⟨gx, 5, none⟩ (.int .u64 sa)).alloc (.cells #[.slice A n c, .slice X m e0, .int .i64 3, .int .i64 1, .int .i64 cz, .int .u64 sa] 38)) w.heap.size 28 #[.slice A n c, .slice M m d, .int .i64 st, .int .i64 sp, .int .i64 cs, .int .u64 sa]) := Lib.hid ((BC5.out.upd ((Upd.refl (At gx) _).set6 (.inl rfl) (.slice A n c) (.slice X m e0) (.int .i64 3) (.int .i64 1) (.int .i64 cz) (.int .u64 sa)) (fun h => absurd h (Nat.ne_of_lt HGX.out))).alloc _)
              have QR : Hid (Blk (((((((w5.setCell ⟨gx, 0, none⟩ (.slice A n c)).setCell ⟨gx, 1, none⟩ (.slice X m e0)).setCell ⟨gx, 2, none⟩ (.int .i64 3)).setCell ⟨gx, 3, none⟩ (.int .i64 1)).setCell ⟨gx, 4, none⟩ (.int .i64 cz)).setCell ⟨gx, 5, none⟩ (.int .u64 sa)).alloc (.cells #[.slice A n c, .slice X m e0, .int .i64 3, .int .i64 1, .int .i64 cz, .int .u64 sa] 38)) gx 38 #[.slice A n c, .slice X m e0, .int .i64 3, .int .i64 1, .int .i64 cz, .int .u64 sa]) := Lib.hid ((QN5.out.set6 (.slice A n c) (.slice X m e0) (.int .i64 3) (.int .i64 1) (.int .i64 cz) (.int .u64 sa)).alloc _)
              go_wp2
              go_roundw
              case rel => exact ⟨UR, SR, BR, .inr ⟨1, cz, by omega, by omega, by go_num, rfl, QR⟩⟩
              case measure => simp [intOf]; omega

            · have g2 : ¬ (0 : Int) < (v : Int) := by omega
              have BCc0 : wr.cell? ⟨w.heap.size, 0, none⟩ = some (.slice A n c) := BC.out.cell 0
              have BCc1 : wr.cell? ⟨w.heap.size, 1, none⟩ = some (.slice M m d) := BC.out.cell 1
              have BCc2 : wr.cell? ⟨w.heap.size, 2, none⟩ = some (.int .i64 st) := BC.out.cell 2
              have BCc3 : wr.cell? ⟨w.heap.size, 3, none⟩ = some (.int .i64 sp) := BC.out.cell 3
              have BCc4 : wr.cell? ⟨w.heap.size, 4, none⟩ = some (.int .i64 cs) := BC.out.cell 4
              have BCc5 : wr.cell? ⟨w.heap.size, 5, none⟩ = some (.int .u64 sa) := BC.out.cell 5
              have BCl : w.heap.size < wr.heap.size := BC.out.lt
              have QNc0 : wr.cell? ⟨gx, 0, none⟩ = some (.slice A n c) := QN.out.cell 0
              have QNc1 : wr.cell? ⟨gx, 1, none⟩ = some (.slice X m e0) := QN.out.cell 1
              have QNc2 : wr.cell? ⟨gx, 2, none⟩ = some (.int .i64 1) := QN.out.cell 2
              have QNc3 : wr.cell? ⟨gx, 3, none⟩ = some (.int .i64 0) := QN.out.cell 3
              have QNc4 : wr.cell? ⟨gx, 4, none⟩ = some (.int .i64 0) := QN.out.cell 4
              have QNc5 : wr.cell? ⟨gx, 5, none⟩ = some (.int .u64 sa) := QN.out.cell 5
              have QNl : gx < wr.heap.size := QN.out.lt
              go_wp2_with fail
              refine (fail_any A X n c m e0 1 0 0 sa 1 (N : Int) (cf0 1 sa (by omega)) _).mono ?_
              rintro e w5 ⟨rfl, hd⟩
              clear BCc0 BCc1 BCc2 BCc3 BCc4 BCc5 QNc0 QNc1 QNc2 QNc3 QNc4 QNc5 BCl QNl
              clear g2 hv0
              have hu := Upd.of_below hd (fun _ => False)
              have QN5 := Lib.hid (QN.out.upd hu (fun h => h))
              have BC5 := Lib.hid (BC.out.upd hu (fun h => h))
              have QS5 := Lib.hid (QS.out.upd0 hu)
              have U5 := Lib.hid (UW.out.trans hu (fun _ h => h.elim))
              clear hd hu
              have QNf := QN5.out.frz
              have QNc0 : w5.cell? ⟨gx, 0, none⟩ = some (.slice A n c) := QN5.out.cell 0
              have QNc1 : w5.cell? ⟨gx, 1, none⟩ = some (.slice X m e0) := QN5.out.cell 1
              have QNc2 : w5.cell? ⟨gx, 2, none⟩ = some (.int .i64 1) := QN5.out.cell 2
              have QNc3 : w5.cell? ⟨gx, 3, none⟩ = some (.int .i64 0) := QN5.out.cell 3
              have QNc4 : w5.cell? ⟨gx, 4, none⟩ = some (.int .i64 0) := QN5.out.cell 4
              have QNc5 : w5.cell? ⟨gx, 5, none⟩ = some (.int .u64 sa) := QN5.out.cell 5
              have QNl : gx < w5.heap.size := QN5.out.lt
              have UR : Hid (Upd (fun _ => False) w (((((((w5.setCell ⟨gx, 0, none⟩ (.slice A n c)).setCell ⟨gx, 1, none⟩ (.slice X m e0)).setCell ⟨gx, 2, none⟩ (.int .i64 3)).setCell ⟨gx, 3, none⟩ (.int .i64 1)).setCell ⟨gx, 4, none⟩ (.int .i64 1)).setCell ⟨gx, 5, none⟩ (.int .u64 sa)).alloc (.cells #[.slice A n c, .slice X m e0, .int .i64 3, .int .i64 1, .int .i64 1, .int .u64 sa] 38))) := Lib.hid ((U5.out.set6 (.inr (Nat.le_of_lt HGX.out)) (.slice A n c) (.slice X m e0) (.int .i64 3) (.int .i64 1) (.int .i64 1) (.int .u64 sa)).alloc _)
              have SR : Hid (Sl (((((((w5.setCell ⟨gx, 0, none⟩ (.slice A n c)).setCell ⟨gx, 1, none⟩ (.slice X m e0)).setCell ⟨gx, 2, none⟩ (.int .i64 3)).setCell ⟨gx, 3, none⟩ (.int .i64 1)).setCell ⟨gx, 4, none⟩ (.int .i64 1)).setCell ⟨gx, 5, none⟩ (.int .u64 sa)).alloc (.cells #[.slice A n c, .slice X m e0, .int .i64 3, .int .i64 1, .int .i64 1, .int .u64 sa] 38)) X m e0 (prs ms)) := Lib.hid ((QS5.out.upd ((Upd.refl (At gx) _).set6 (.inl rfl) (.slice A n c) (.slice X m e0) (.int .i64 3) (.int .i64 1) (.int .i64 1) (.int .u64 sa)) (fun b o e h => HX.out b o e h)).alloc _)
              have BR : Hid (Blk (((((((w5.setCell ⟨gx, 0, none⟩ (.slice A n c)).setCell ⟨gx, 1, none⟩ (.slice X m e0)).setCell ⟨gx, 2, none⟩ (.int .i64 3)).setCell ⟨gx, 3, none⟩ (.int .i64 1)).setCell ⟨gx, 4, none⟩ (.int .i64 1)).setCell ⟨gx, 5, none⟩ (.int .u64 sa)).alloc (.cells #[.slice A n c, .slice X m e0, .int .i64 3, .int .i64 1, .int .i64 1, .int .u64 sa] 38)) w.heap.size 28 #[.slice A n c, .slice M m d, .int .i64 st, .int .i64 sp, .int .i64 cs, .int .u64 sa]) := Lib.hid ((BC5.out.upd ((Upd.refl (At gx) _).set6 (.inl rfl) (.slice A n c) (.slice X m e0) (.int .i64 3) (.int .i64 1) (.int .i64 1) (.int .u64 sa)) (fun h => absurd h (Nat.ne_of_lt HGX.out))).alloc _)
              have QR : Hid (Blk (((((((w5.setCell ⟨gx, 0, none⟩ (.slice A n c)).setCell ⟨gx, 1, none⟩ (.slice X m e0)).setCell ⟨gx, 2, none⟩ (.int .i64 3)).setCell ⟨gx, 3, none⟩ (.int .i64 1)).setCell ⟨gx, 4, none⟩ (.int .i64 1)).setCell ⟨gx, 5, none⟩ (.int .u64 sa)).alloc (.cells #[.slice A n c, .slice X m e0, .int .i64 3, .int .i64 1, .int .i64 1, .int .u64 sa] 38)) gx 38 #[.slice A n c, .slice X m e0, .int .i64 3, .int .i64 1, .int .i64 1, .int .u64 sa]) := Lib.hid ((QN5.out.set6 (.slice A n c) (.slice X m e0) (.int .i64 3) (.int .i64 1) (.int .i64 1) (.int .u64 sa)).alloc _)
              go_wp2
              go_roundw
              case rel => exact ⟨UR, SR, BR, .inr ⟨1, 1, by omega, by omega, by go_num, rfl, QR⟩⟩
              case measure => simp [intOf]; omega

          · have e0 : N = 0 := by omega
            subst e0
            have BCc0 : wr.cell? ⟨w.heap.size, 0, none⟩ = some (.slice A n c) := BC.out.cell 0
            have BCc1 : wr.cell? ⟨w.heap.size, 1, none⟩ = some (.slice M m d) := BC.out.cell 1
            have BCc2 : wr.cell? ⟨w.heap.size, 2, none⟩ = some (.int .i64 st) := BC.out.cell 2
            have BCc3 : wr.cell? ⟨w.heap.size, 3, none⟩ = some (.int .i64 sp) := BC.out.cell 3
            have BCc4 : wr.cell? ⟨w.heap.size, 4, none⟩ = some (.int .i64 cs) := BC.out.cell 4
            have BCc5 : wr.cell? ⟨w.heap.size, 5, none⟩ = some (.int .u64 sa) := BC.out.cell 5
            have BCl : w.heap.size < wr.heap.size := BC.out.lt
            have QNc0 : wr.cell? ⟨gx, 0, none⟩ = some (.slice A n c) := QN.out.cell 0
            have QNc1 : wr.cell? ⟨gx, 1, none⟩ = some (.slice X m e0) := QN.out.cell 1
            have QNc2 : wr.cell? ⟨gx, 2, none⟩ = some (.int .i64 1) := QN.out.cell 2
            have QNc3 : wr.cell? ⟨gx, 3, none⟩ = some (.int .i64 0) := QN.out.cell 3
            have QNc4 : wr.cell? ⟨gx, 4, none⟩ = some (.int .i64 0) := QN.out.cell 4
            have QNc5 : wr.cell? ⟨gx, 5, none⟩ = some (.int .u64 sa) := QN.out.cell 5
            have QNl : gx < wr.heap.size := QN.out.lt
            go_wp2_with fail
            refine (fail_any A X n c m e0 1 0 0 sa 4 0 (st2 := 4) (sp2 := 0) (cs2 := 4) (sa2 := sa) (ok := false) (by simp [cfail]) _).mono ?_
            rintro e w5 ⟨rfl, hd⟩
            clear BCc0 BCc1 BCc2 BCc3 BCc4 BCc5 QNc0 QNc1 QNc2 QNc3 QNc4 QNc5 BCl QNl
            have hu := Upd.of_below hd (fun _ => False)
            have BC5 := Lib.hid (BC.out.upd hu (fun h => h))
            have QS5 := Lib.hid (QS.out.upd0 hu)
            have U5 := Lib.hid (UW.out.trans hu (fun _ h => h.elim))
            have HA5 := Lib.hid (HAw.out.upd0 U5.out)
            have HS5 := Lib.hid (HSw.out.upd0 U5.out)
            clear hd hu BC QS UW QN HGX HX HAw HSw HSVw
            have BCc0 : w5.cell? ⟨w.heap.size, 0, none⟩ = some (.slice A n c) := BC5.out.cell 0
            have BCc1 : w5.cell? ⟨w.heap.size, 1, none⟩ = some (.slice M m d) := BC5.out.cell 1
            have BCc2 : w5.cell? ⟨w.heap.size, 2, none⟩ = some (.int .i64 st) := BC5.out.cell 2
            have BCc3 : w5.cell? ⟨w.heap.size, 3, none⟩ = some (.int .i64 sp) := BC5.out.cell 3
            have BCc4 : w5.cell? ⟨w.heap.size, 4, none⟩ = some (.int .i64 cs) := BC5.out.cell 4
            have BCc5 : w5.cell? ⟨w.heap.size, 5, none⟩ = some (.int .u64 sa) := BC5.out.cell 5
            have BCl : w.heap.size < w5.heap.size := BC5.out.lt
            go_wp2_with fail
            clear BCc0 BCc1 BCc2 BCc3 BCc4 BCc5 BCl
            refine (fail_any A X n c m e0 4 0 4 sa 1 0 (st2 := 4) (sp2 := 0) (cs2 := 4) (sa2 := sa) (ok := false) (by simp [cfail]) _).mono ?_
            rintro e w6 ⟨rfl, hd⟩
            have hu := Upd.of_below hd (fun _ => False)
            have BC6 := Lib.hid ((BC5.out.alloc _).upd hu (fun h => h))
            have HA6 := Lib.hid ((HA5.out.alloc _).upd0 hu)
            have HS6 := Lib.hid ((HS5.out.alloc _).upd0 hu)
            have QS6 := Lib.hid ((QS5.out.alloc _).upd0 hu)
            have U6 := Lib.hid ((U5.out.alloc _).trans hu (fun _ h => h.elim))
            have XY6 := Lib.hid ((Blk.new w5 #[.slice A n c, .slice X m e0, .int .i64 4, .int .i64 0, .int .i64 4, .int .u64 sa] 38).upd hu (fun h => h))
            clear hd hu BC5 HA5 HS5 QS5 U5
            have BCc0 : w6.cell? ⟨w.heap.size, 0, none⟩ = some (.slice A n c) := BC6.out.cell 0
            have BCc1 : w6.cell? ⟨w.heap.size, 1, none⟩ = some (.slice M m d) := BC6.out.cell 1
            have BCc2 : w6.cell? ⟨w.heap.size, 2, none⟩ = some (.int .i64 st) := BC6.out.cell 2
            have BCc3 : w6.cell? ⟨w.heap.size, 3, none⟩ = some (.int .i64 sp) := BC6.out.cell 3
            have BCc4 : w6.cell? ⟨w.heap.size, 4, none⟩ = some (.int .i64 cs) := BC6.out.cell 4
            have BCc5 : w6.cell? ⟨w.heap.size, 5, none⟩ = some (.int .u64 sa) := BC6.out.cell 5
            have BCl : w.heap.size < w6.heap.size := BC6.out.lt
            have XYc0 : w6.cell? ⟨w5.heap.size, 0, none⟩ = some (.slice A n c) := XY6.out.cell 0
            have XYc1 : w6.cell? ⟨w5.heap.size, 1, none⟩ = some (.slice X m e0) := XY6.out.cell 1
            have XYc2 : w6.cell? ⟨w5.heap.size, 2, none⟩ = some (.int .i64 4) := XY6.out.cell 2
            have XYc3 : w6.cell? ⟨w5.heap.size, 3, none⟩ = some (.int .i64 0) := XY6.out.cell 3
            have XYc4 : w6.cell? ⟨w5.heap.size, 4, none⟩ = some (.int .i64 4) := XY6.out.cell 4
            have XYc5 : w6.cell? ⟨w5.heap.size, 5, none⟩ = some (.int .u64 sa) := XY6.out.cell 5
            have XYl : w5.heap.size < w6.heap.size := XY6.out.lt
            go_wp2_with fail
            clear BCc0 BCc1 BCc2 BCc3 BCc4 BCc5 BCl XYc0 XYc1 XYc2 XYc3 XYc4 XYc5 XYl
            refine (csame_any 4 0 4 sa HN.out HM.out (by omega) (by omega) _ (HA6.out.alloc _) (QS6.out.alloc _) (HA6.out.alloc _) (HS6.out.alloc _)).mono ?_
            rintro e w7 ⟨rfl, hd⟩
            have hu := Upd.of_below hd (fun _ => False)
            have BC7 := Lib.hid ((BC6.out.alloc _).upd hu (fun h => h))
            have XY7 := Lib.hid ((XY6.out.alloc _).upd hu (fun h => h))
            have HA7 := Lib.hid ((HA6.out.alloc _).upd0 hu)
            have HS7 := Lib.hid ((HS6.out.alloc _).upd0 hu)
            have QS7 := Lib.hid ((QS6.out.alloc _).upd0 hu)
            have U7 := Lib.hid ((U6.out.alloc _).trans hu (fun _ h => h.elim))
            have XZ7 := Lib.hid ((Blk.new w6 #[.slice A n c, .slice X m e0, .int .i64 4, .int .i64 0, .int .i64 4, .int .u64 sa] 38).upd hu (fun h => h))
            clear hd hu BC6 XY6 HA6 HS6 QS6 U6
            have BCc0 : w7.cell? ⟨w.heap.size, 0, none⟩ = some (.slice A n c) := BC7.out.cell 0
            have BCc1 : w7.cell? ⟨w.heap.size, 1, none⟩ = some (.slice M m d) := BC7.out.cell 1
            have BCc2 : w7.cell? ⟨w.heap.size, 2, none⟩ = some (.int .i64 st) := BC7.out.cell 2
            have BCc3 : w7.cell? ⟨w.heap.size, 3, none⟩ = some (.int .i64 sp) := BC7.out.cell 3
            have BCc4 : w7.cell? ⟨w.heap.size, 4, none⟩ = some (.int .i64 cs) := BC7.out.cell 4
            have BCc5 : w7.cell? ⟨w.heap.size, 5, none⟩ = some (.int .u64 sa) := BC7.out.cell 5
            have BCl : w.heap.size < w7.heap.size := BC7.out.lt
            have XYc0 : w7.cell? ⟨w5.heap.size, 0, none⟩ = some (.slice A n c) := XY7.out.cell 0
            have XYc1 : w7.cell? ⟨w5.heap.size, 1, none⟩ = some (.slice X m e0) := XY7.out.cell 1
            have XYc2 : w7.cell? ⟨w5.heap.size, 2, none⟩ = some (.int .i64 4) := XY7.out.cell 2
            have XYc3 : w7.cell? ⟨w5.heap.size, 3, none⟩ = some (.int .i64 0) := XY7.out.cell 3
            have XYc4 : w7.cell? ⟨w5.heap.size, 4, none⟩ = some (.int .i64 4) := XY7.out.cell 4
            have XYc5 : w7.cell? ⟨w5.heap.size, 5, none⟩ = some (.int .u64 sa) := XY7.out.cell 5
            have XYl : w5.heap.size < w7.heap.size := XY7.out.lt
            have XZc0 : w7.cell? ⟨w6.heap.size, 0, none⟩ = some (.slice A n c) := XZ7.out.cell 0
            have XZc1 : w7.cell? ⟨w6.heap.size, 1, none⟩ = some (.slice X m e0) := XZ7.out.cell 1
            have XZc2 : w7.cell? ⟨w6.heap.size, 2, none⟩ = some (.int .i64 4) := XZ7.out.cell 2
            have XZc3 : w7.cell? ⟨w6.heap.size, 3, none⟩ = some (.int .i64 0) := XZ7.out.cell 3
            have XZc4 : w7.cell? ⟨w6.heap.size, 4, none⟩ = some (.int .i64 4) := XZ7.out.cell 4
            have XZc5 : w7.cell? ⟨w6.heap.size, 5, none⟩ = some (.int .u64 sa) := XZ7.out.cell 5
            have XZl : w6.heap.size < w7.heap.size := XZ7.out.lt
            go_wp2
            go_ret
            exact ⟨rfl, U7.out.below0⟩

        · have i0 : (0 : Int) ≤ (k : Int) := Int.natCast_nonneg _
          have i1 : ¬ (k : Int) = 0 := by omega
          by_cases hlt : k < N
          · have g1 : (k : Int) < (N : Int) := by omega
            by_cases hv0 : k < v
            · have g2 : (k : Int) < (v : Int) := by omega
              obtain ⟨cz, hcz⟩ : ∃ x, vals[k]? = some x := ⟨vals[k]'(by rw [HV.out]; omega), List.getElem?_eq_getElem _⟩
              obtain ⟨vb, vo, ev, hvb, hvc⟩ := (HSVw.out.upd0 UW.out).num hcz
              subst ev
              clear hcz
              have BCc0 : wr.cell? ⟨w.heap.size, 0, none⟩ = some (.slice A n c) := BC.out.cell 0
              have BCc1 : wr.cell? ⟨w.heap.size, 1, none⟩ = some (.slice M m d) := BC.out.cell 1
              have BCc2 : wr.cell? ⟨w.heap.size, 2, none⟩ = some (.int .i64 st) := BC.out.cell 2
              have BCc3 : wr.cell? ⟨w.heap.size, 3, none⟩ = some (.int .i64 sp) := BC.out.cell 3
              have BCc4 : wr.cell? ⟨w.heap.size, 4, none⟩ = some (.int .i64 cs) := BC.out.cell 4
              have BCc5 : wr.cell? ⟨w.heap.size, 5, none⟩ = some (.int .u64 sa) := BC.out.cell 5
              have BCl : w.heap.size < wr.heap.size := BC.out.lt
              have QNc0 : wr.cell? ⟨gx, 0, none⟩ = some (.slice A n c) := QN.out.cell 0
              have QNc1 : wr.cell? ⟨gx, 1, none⟩ = some (.slice X m e0) := QN.out.cell 1
              have QNc2 : wr.cell? ⟨gx, 2, none⟩ = some (.int .i64 3) := QN.out.cell 2
              have QNc3 : wr.cell? ⟨gx, 3, none⟩ = some (.int .i64 (k : Int)) := QN.out.cell 3
              have QNc4 : wr.cell? ⟨gx, 4, none⟩ = some (.int .i64 fi) := QN.out.cell 4
              have QNc5 : wr.cell? ⟨gx, 5, none⟩ = some (.int .u64 sa) := QN.out.cell 5
              have QNl : gx < wr.heap.size := QN.out.lt
              go_wp2_with fail
              refine (fail_any A X n c m e0 3 (k : Int) fi sa cz (N : Int) (cf1 cz fi sa (by omega) HNN.out) _).mono ?_
              rintro e w5 ⟨rfl, hd⟩
              clear BCc0 BCc1 BCc2 BCc3 BCc4 BCc5 QNc0 QNc1 QNc2 QNc3 QNc4 QNc5 BCl QNl hvb hvc
              clear g2 hv0
              have hu := Upd.of_below hd (fun _ => False)
              have QN5 := Lib.hid (QN.out.upd hu (fun h => h))
              have BC5 := Lib.hid (BC.out.upd hu (fun h => h))
              have QS5 := Lib.hid (QS.out.upd0 hu)
              have U5 := Lib.hid (UW.out.trans hu (fun _ h => h.elim))
              clear hd hu
              have QNf := QN5.out.frz
              have QNc0 : w5.cell? ⟨gx, 0, none⟩ = some (.slice A n c) := QN5.out.cell 0
              have QNc1 : w5.cell? ⟨gx, 1, none⟩ = some (.slice X m e0) := QN5.out.cell 1
              have QNc2 : w5.cell? ⟨gx, 2, none⟩ = some (.int .i64 3) := QN5.out.cell 2
              have QNc3 : w5.cell? ⟨gx, 3, none⟩ = some (.int .i64 (k : Int)) := QN5.out.cell 3
              have QNc4 : w5.cell? ⟨gx, 4, none⟩ = some (.int .i64 fi) := QN5.out.cell 4
              have QNc5 : w5.cell? ⟨gx, 5, none⟩ = some (.int .u64 sa) := QN5.out.cell 5
              have QNl : gx < w5.heap.size := QN5.out.lt
              have UR : Hid (Upd (fun _ => False) w (((((((w5.setCell ⟨gx, 0, none⟩ (.slice A n c)).setCell ⟨gx, 1, none⟩ (.slice X m e0)).setCell ⟨gx, 2, none⟩ (.int .i64 3)).setCell ⟨gx, 3, none⟩ (.int .i64 ((k : Int) + 1))).setCell ⟨gx, 4, none⟩ (.int .i64 fi)).setCell ⟨gx, 5, none⟩ (.int .u64 sa)).alloc (.cells #[.slice A n c, .slice X m e0, .int .i64 3, .int .i64 ((k : Int) + 1), .int .i64 fi, .int .u64 sa] 38))) := Lib.hid ((U5.out.set6 (.inr (Nat.le_of_lt HGX.out)) (.slice A n c) (.slice X m e0) (.int .i64 3) (.int .i64 ((k : Int) + 1)) (.int .i64 fi) (.int .u64 sa)).alloc _)
              have SR : Hid (Sl (((((((w5.setCell ⟨gx, 0, none⟩ (.slice A n c)).setCell ⟨gx, 1, none⟩ (.slice X m e0)).setCell ⟨gx, 2, none⟩ (.int .i64 3)).setCell ⟨gx, 3, none⟩ (.int .i64 ((k : Int) + 1))).setCell ⟨gx, 4, none⟩ (.int .i64 fi)).setCell ⟨gx, 5, none⟩ (.int .u64 sa)).alloc (.cells #[.slice A n c, .slice X m e0, .int .i64 3, .int .i64 ((k : Int) + 1), .int .i64 fi, .int .u64 sa] 38)) X m e0 (prs ms)) := Lib.hid ((QS5.out.upd ((Upd.refl (At gx) _).set6 (.inl rfl) (.slice A n c) (.slice X m e0) (.int .i64 3) (.int .i64 ((k : Int) + 1)) (.int .i64 fi) (.int .u64 sa)) (fun b o e h => HX.out b o e h)).alloc _)
              have BR : Hid (Blk (((((((w5.setCell ⟨gx, 0, none⟩ (.slice A n c)).setCell ⟨gx, 1, none⟩ (.slice X m e0)).setCell ⟨gx, 2, none⟩ (.int .i64 3)).setCell ⟨gx, 3, none⟩ (.int .i64 ((k : Int) + 1))).setCell ⟨gx, 4, none⟩ (.int .i64 fi)).setCell ⟨gx, 5, none⟩ (.int .u64 sa)).alloc (.cells #[.slice A n c, .slice X m e0, .int .i64 3, .int .i64 ((k : Int) + 1), .int .i64 fi, .int .u64 sa] 38)) w.heap.size 28 #[.slice A n c, .slice M m d, .int .i64 st, .int .i64 sp, .int .i64 cs, .int .u64 sa]) := Lib.hid ((BC5.out.upd ((Upd.refl (At gx) _).set6 (.inl rfl) (.slice A n c) (.slice X m e0) (.int .i64 3) (.int .i64 ((k : Int) + 1)) (.int .i64 fi) (.int .u64 sa)) (fun h => absurd h (Nat.ne_of_lt HGX.out))).alloc _)
              have QR : Hid (Blk (((((((w5.setCell ⟨gx, 0, none⟩ (.slice A n c)).setCell ⟨gx, 1, none⟩ (.slice X m e0)).setCell ⟨gx, 2, none⟩ (.int .i64 3)).setCell ⟨gx, 3, none⟩ (.int .i64 ((k : Int) + 1))).setCell ⟨gx, 4, none⟩ (.int .i64 fi)).setCell ⟨gx, 5, none⟩ (.int .u64 sa)).alloc (.cells #[.slice A n c, .slice X m e0, .int .i64 3, .int .i64 ((k : Int) + 1), .int .i64 fi, .int .u64 sa] 38)) gx 38 #[.slice A n c, .slice X m e0, .int .i64 3, .int .i64 ((k : Int) + 1), .int .i64 fi, .int .u64 sa]) := Lib.hid ((QN5.out.set6 (.slice A n c) (.slice X m e0) (.int .i64 3) (.int .i64 ((k : Int) + 1)) (.int .i64 fi) (.int .u64 sa)).alloc _)
              have hw : IntKind.i64.wrap ((k : Int) + 1) = (k : Int) + 1 := by
                have h20 := HNN.out
                rw [IntKind.wrap_i64]
                omega
              have hw2 : wrap64 ((k : Int) + 1) = (k : Int) + 1 := by
                have h20 := HNN.out
                unfold wrap64
                omega
              go_wp2
              go_roundw
              case rel => exact ⟨UR, SR, BR, .inr ⟨k + 1, fi, by omega, by omega, by go_num, rfl, (by rw [show ((k + 1 : Nat) : Int) = (k : Int) + 1 by omega]; exact QR)⟩⟩
              case measure => simp [intOf]; omega

            · have g2 : ¬ (k : Int) < (v : Int) := by omega
              have BCc0 : wr.cell? ⟨w.heap.size, 0, none⟩ = some (.slice A n c) := BC.out.cell 0
              have BCc1 : wr.cell? ⟨w.heap.size, 1, none⟩ = some (.slice M m d) := BC.out.cell 1
              have BCc2 : wr.cell? ⟨w.heap.size, 2, none⟩ = some (.int .i64 st) := BC.out.cell 2
              have BCc3 : wr.cell? ⟨w.heap.size, 3, none⟩ = some (.int .i64 sp) := BC.out.cell 3
              have BCc4 : wr.cell? ⟨w.heap.size, 4, none⟩ = some (.int .i64 cs) := BC.out.cell 4
              have BCc5 : wr.cell? ⟨w.heap.size, 5, none⟩ = some (.int .u64 sa) := BC.out.cell 5
              have BCl : w.heap.size < wr.heap.size := BC.out.lt
              have QNc0 : wr.cell? ⟨gx, 0, none⟩ = some (.slice A n c) := QN.out.cell 0
              have QNc1 : wr.cell? ⟨gx, 1, none⟩ = some (.slice X m e0) := QN.out.cell 1
              have QNc2 : wr.cell? ⟨gx, 2, none⟩ = some (.int .i64 3) := QN.out.cell 2
              have QNc3 : wr.cell? ⟨gx, 3, none⟩ = some (.int .i64 (k : Int)) := QN.out.cell 3
              have QNc4 : wr.cell? ⟨gx, 4, none⟩ = some (.int .i64 fi) := QN.out.cell 4
              have QNc5 : wr.cell? ⟨gx, 5, none⟩ = some (.int .u64 sa) := QN.out.cell 5
              have QNl : gx < wr.heap.size := QN.out.lt
              go_wp2_with fail
              refine (fail_any A X n c m e0 3 (k : Int) fi sa 1 (N : Int) (cf1 1 fi sa (by omega) HNN.out) _).mono ?_
              rintro e w5 ⟨rfl, hd⟩
              clear BCc0 BCc1 BCc2 BCc3 BCc4 BCc5 QNc0 QNc1 QNc2 QNc3 QNc4 QNc5 BCl QNl
              clear g2 hv0
              have hu := Upd.of_below hd (fun _ => False)
              have QN5 := Lib.hid (QN.out.upd hu (fun h => h))
              have BC5 := Lib.hid (BC.out.upd hu (fun h => h))
              have QS5 := Lib.hid (QS.out.upd0 hu)
              have U5 := Lib.hid (UW.out.trans hu (fun _ h => h.elim))
              clear hd hu
              have QNf := QN5.out.frz
              have QNc0 : w5.cell? ⟨gx, 0, none⟩ = some (.slice A n c) := QN5.out.cell 0
              have QNc1 : w5.cell? ⟨gx, 1, none⟩ = some (.slice X m e0) := QN5.out.cell 1
              have QNc2 : w5.cell? ⟨gx, 2, none⟩ = some (.int .i64 3) := QN5.out.cell 2
              have QNc3 : w5.cell? ⟨gx, 3, none⟩ = some (.int .i64 (k : Int)) := QN5.out.cell 3
              have QNc4 : w5.cell? ⟨gx, 4, none⟩ = some (.int .i64 fi) := QN5.out.cell 4
              have QNc5 : w5.cell? ⟨gx, 5, none⟩ = some (.int .u64 sa) := QN5.out.cell 5
              have QNl : gx < w5.heap.size := QN5.out.lt
              have UR : Hid (Upd (fun _ => False) w (((((((w5.setCell ⟨gx, 0, none⟩ (.slice A n c)).setCell ⟨gx, 1, none⟩ (.slice X m e0)).setCell ⟨gx, 2, none⟩ (.int .i64 3)).setCell ⟨gx, 3, none⟩ (.int .i64 ((k : Int) + 1))).setCell ⟨gx, 4, none⟩ (.int .i64 fi)).setCell ⟨gx, 5, none⟩ (.int .u64 sa)).alloc (.cells #[.slice A n c, .slice X m e0, .int .i64 3, .int .i64 ((k : Int) + 1), .int .i64 fi, .int .u64 sa] 38))) := Lib.hid ((U5.out.set6 (.inr (Nat.le_of_lt HGX.out)) (.slice A n c) (.slice X m e0) (.int .i64 3) (.int .i64 ((k : Int) + 1)) (.int .i64 fi) (.int .u64 sa)).alloc _)
              have SR : Hid (Sl (((((((w5.setCell ⟨gx, 0, none⟩ (.slice A n c)).setCell ⟨gx, 1, none⟩ (.slice X m e0)).setCell ⟨gx, 2, none⟩ (.int .i64 3)).setCell ⟨gx, 3, none⟩ (.int .i64 ((k : Int) + 1))).setCell ⟨gx, 4, none⟩ (.int .i64 fi)).setCell ⟨gx, 5, none⟩ (.int .u64 sa)).alloc (.cells #[.slice A n c, .slice X m e0, .int .i64 3, .int .i64 ((k : Int) + 1), .int .i64 fi, .int .u64 sa] 38)) X m e0 (prs ms)) := Lib.hid ((QS5.out.upd ((Upd.refl (At gx) _).set6 (.inl rfl) (.slice A n c) (.slice X m e0) (.int .i64 3) (.int .i64 ((k : Int) + 1)) (.int .i64 fi) (.int .u64 sa)) (fun b o e h => HX.out b o e h)).alloc _)
              have BR : Hid (Blk (((((((w5.setCell ⟨gx, 0, none⟩ (.slice A n c)).setCell ⟨gx, 1, none⟩ (.slice X m e0)).setCell ⟨gx, 2, none⟩ (.int .i64 3)).setCell ⟨gx, 3, none⟩ (.int .i64 ((k : Int) + 1))).setCell ⟨gx, 4, none⟩ (.int .i64 fi)).setCell ⟨gx, 5, none⟩ (.int .u64 sa)).alloc (.cells #[.slice A n c, .slice X m e0, .int .i64 3, .int .i64 ((k : Int) + 1), .int .i64 fi, .int .u64 sa] 38)) w.heap.size 28 #[.slice A n c, .slice M m d, .int .i64 st, .int .i64 sp, .int .i64 cs, .int .u64 sa]) := Lib.hid ((BC5.out.upd ((Upd.refl (At gx) _).set6 (.inl rfl) (.slice A n c) (.slice X m e0) (.int .i64 3) (.int .i64 ((k : Int) + 1)) (.int .i64 fi) (.int .u64 sa)) (fun h => absurd h (Nat.ne_of_lt HGX.out))).alloc _)
              have QR : Hid (Blk (((((((w5.setCell ⟨gx, 0, none⟩ (.slice A n c)).setCell ⟨gx, 1, none⟩ (.slice X m e0)).setCell ⟨gx, 2, none⟩ (.int .i64 3)).setCell ⟨gx, 3, none⟩ (.int .i64 ((k : Int) + 1))).setCell ⟨gx, 4, none⟩ (.int .i64 fi)).setCell ⟨gx, 5, none⟩ (.int .u64 sa)).alloc (.cells #[.slice A n c, .slice X m e0, .int .i64 3, .int .i64 ((k : Int) + 1), .int .i64 fi, .int .u64 sa] 38)) gx 38 #[.slice A n c, .slice X m e0, .int .i64 3, .int .i64 ((k : Int) + 1), .int .i64 fi, .int .u64 sa]) := Lib.hid ((QN5.out.set6 (.slice A n c) (.slice X m e0) (.int .i64 3) (.int .i64 ((k : Int) + 1)) (.int .i64 fi) (.int .u64 sa)).alloc _)
              have hw : IntKind.i64.wrap ((k : Int) + 1) = (k : Int) + 1 := by
                have h20 := HNN.out
                rw [IntKind.wrap_i64]
                omega
              have hw2 : wrap64 ((k : Int) + 1) = (k : Int) + 1 := by
                have h20 := HNN.out
                unfold wrap64
                omega
              go_wp2
              go_roundw
              case rel => exact ⟨UR, SR, BR, .inr ⟨k + 1, fi, by omega, by omega, by go_num, rfl, (by rw [show ((k + 1 : Nat) : Int) = (k : Int) + 1 by omega]; exact QR)⟩⟩
              case measure => simp [intOf]; omega

          · have e0 : k = N := by omega
            subst e0
            have g3 : ¬ (k : Int) = 0 := i1
            have BCc0 : wr.cell? ⟨w.heap.size, 0, none⟩ = some (.slice A n c) := BC.out.cell 0
            have BCc1 : wr.cell? ⟨w.heap.size, 1, none⟩ = some (.slice M m d) := BC.out.cell 1
            have BCc2 : wr.cell? ⟨w.heap.size, 2, none⟩ = some (.int .i64 st) := BC.out.cell 2
            have BCc3 : wr.cell? ⟨w.heap.size, 3, none⟩ = some (.int .i64 sp) := BC.out.cell 3
            have BCc4 : wr.cell? ⟨w.heap.size, 4, none⟩ = some (.int .i64 cs) := BC.out.cell 4
            have BCc5 : wr.cell? ⟨w.heap.size, 5, none⟩ = some (.int .u64 sa) := BC.out.cell 5
            have BCl : w.heap.size < wr.heap.size := BC.out.lt
            have QNc0 : wr.cell? ⟨gx, 0, none⟩ = some (.slice A n c) := QN.out.cell 0
            have QNc1 : wr.cell? ⟨gx, 1, none⟩ = some (.slice X m e0) := QN.out.cell 1
            have QNc2 : wr.cell? ⟨gx, 2, none⟩ = some (.int .i64 3) := QN.out.cell 2
            have QNc3 : wr.cell? ⟨gx, 3, none⟩ = some (.int .i64 (k : Int)) := QN.out.cell 3
            have QNc4 : wr.cell? ⟨gx, 4, none⟩ = some (.int .i64 fi) := QN.out.cell 4
            have QNc5 : wr.cell? ⟨gx, 5, none⟩ = some (.int .u64 sa) := QN.out.cell 5
            have QNl : gx < wr.heap.size := QN.out.lt
            go_wp2_with fail
            refine (fail_any A X n c m e0 3 (k : Int) fi sa 4 (k : Int) (st2 := 4) (sp2 := (k : Int)) (cs2 := fi) (sa2 := sa) (ok := false) (cf2 4 fi sa k) _).mono ?_
            rintro e w5 ⟨rfl, hd⟩
            clear BCc0 BCc1 BCc2 BCc3 BCc4 BCc5 QNc0 QNc1 QNc2 QNc3 QNc4 QNc5 BCl QNl
            have hu := Upd.of_below hd (fun _ => False)
            have BC5 := Lib.hid (BC.out.upd hu (fun h => h))
            have QS5 := Lib.hid (QS.out.upd0 hu)
            have U5 := Lib.hid (UW.out.trans hu (fun _ h => h.elim))
            have HA5 := Lib.hid (HAw.out.upd0 U5.out)
            have HS5 := Lib.hid (HSw.out.upd0 U5.out)
            clear hd hu BC QS UW QN HGX HX HAw HSw HSVw
            have BCc0 : w5.cell? ⟨w.heap.size, 0, none⟩ = some (.slice A n c) := BC5.out.cell 0
            have BCc1 : w5.cell? ⟨w.heap.size, 1, none⟩ = some (.slice M m d) := BC5.out.cell 1
            have BCc2 : w5.cell? ⟨w.heap.size, 2, none⟩ = some (.int .i64 st) := BC5.out.cell 2
            have BCc3 : w5.cell? ⟨w.heap.size, 3, none⟩ = some (.int .i64 sp) := BC5.out.cell 3
            have BCc4 : w5.cell? ⟨w.heap.size, 4, none⟩ = some (.int .i64 cs) := BC5.out.cell 4
            have BCc5 : w5.cell? ⟨w.heap.size, 5, none⟩ = some (.int .u64 sa) := BC5.out.cell 5
            have BCl : w.heap.size < w5.heap.size := BC5.out.lt
            go_wp2_with fail
            clear BCc0 BCc1 BCc2 BCc3 BCc4 BCc5 BCl
            refine (fail_any A X n c m e0 4 (k : Int) fi sa 1 (k : Int) (st2 := 4) (sp2 := (k : Int)) (cs2 := fi) (sa2 := sa) (ok := false) (by simp [cfail]) _).mono ?_
            rintro e w6 ⟨rfl, hd⟩
            have hu := Upd.of_below hd (fun _ => False)
            have BC6 := Lib.hid ((BC5.out.alloc _).upd hu (fun h => h))
            have HA6 := Lib.hid ((HA5.out.alloc _).upd0 hu)
            have HS6 := Lib.hid ((HS5.out.alloc _).upd0 hu)
            have QS6 := Lib.hid ((QS5.out.alloc _).upd0 hu)
            have U6 := Lib.hid ((U5.out.alloc _).trans hu (fun _ h => h.elim))
            have XY6 := Lib.hid ((Blk.new w5 #[.slice A n c, .slice X m e0, .int .i64 4, .int .i64 (k : Int), .int .i64 fi, .int .u64 sa] 38).upd hu (fun h => h))
            clear hd hu BC5 HA5 HS5 QS5 U5
            have BCc0 : w6.cell? ⟨w.heap.size, 0, none⟩ = some (.slice A n c) := BC6.out.cell 0
            have BCc1 : w6.cell? ⟨w.heap.size, 1, none⟩ = some (.slice M m d) := BC6.out.cell 1
            have BCc2 : w6.cell? ⟨w.heap.size, 2, none⟩ = some (.int .i64 st) := BC6.out.cell 2
            have BCc3 : w6.cell? ⟨w.heap.size, 3, none⟩ = some (.int .i64 sp) := BC6.out.cell 3
            have BCc4 : w6.cell? ⟨w.heap.size, 4, none⟩ = some (.int .i64 cs) := BC6.out.cell 4
            have BCc5 : w6.cell? ⟨w.heap.size, 5, none⟩ = some (.int .u64 sa) := BC6.out.cell 5
            have BCl : w.heap.size < w6.heap.size := BC6.out.lt
            have XYc0 : w6.cell? ⟨w5.heap.size, 0, none⟩ = some (.slice A n c) := XY6.out.cell 0
            have XYc1 : w6.cell? ⟨w5.heap.size, 1, none⟩ = some (.slice X m e0) := XY6.out.cell 1
            have XYc2 : w6.cell? ⟨w5.heap.size, 2, none⟩ = some (.int .i64 4) := XY6.out.cell 2
            have XYc3 : w6.cell? ⟨w5.heap.size, 3, none⟩ = some (.int .i64 (k : Int)) := XY6.out.cell 3
            have XYc4 : w6.cell? ⟨w5.heap.size, 4, none⟩ = some (.int .i64 fi) := XY6.out.cell 4
            have XYc5 : w6.cell? ⟨w5.heap.size, 5, none⟩ = some (.int .u64 sa) := XY6.out.cell 5
            have XYl : w5.heap.size < w6.heap.size := XY6.out.lt
            go_wp2_with fail
            clear BCc0 BCc1 BCc2 BCc3 BCc4 BCc5 BCl XYc0 XYc1 XYc2 XYc3 XYc4 XYc5 XYl
            refine (csame_any 4 (k : Int) fi sa HN.out HM.out (by omega) (by omega) _ (HA6.out.alloc _) (QS6.out.alloc _) (HA6.out.alloc _) (HS6.out.alloc _)).mono ?_
            rintro e w7 ⟨rfl, hd⟩
            have hu := Upd.of_below hd (fun _ => False)
            have BC7 := Lib.hid ((BC6.out.alloc _).upd hu (fun h => h))
            have XY7 := Lib.hid ((XY6.out.alloc _).upd hu (fun h => h))
            have HA7 := Lib.hid ((HA6.out.alloc _).upd0 hu)
            have HS7 := Lib.hid ((HS6.out.alloc _).upd0 hu)
            have QS7 := Lib.hid ((QS6.out.alloc _).upd0 hu)
            have U7 := Lib.hid ((U6.out.alloc _).trans hu (fun _ h => h.elim))
            have XZ7 := Lib.hid ((Blk.new w6 #[.slice A n c, .slice X m e0, .int .i64 4, .int .i64 (k : Int), .int .i64 fi, .int .u64 sa] 38).upd hu (fun h => h))
            clear hd hu BC6 XY6 HA6 HS6 QS6 U6
            have BCc0 : w7.cell? ⟨w.heap.size, 0, none⟩ = some (.slice A n c) := BC7.out.cell 0
            have BCc1 : w7.cell? ⟨w.heap.size, 1, none⟩ = some (.slice M m d) := BC7.out.cell 1
            have BCc2 : w7.cell? ⟨w.heap.size, 2, none⟩ = some (.int .i64 st) := BC7.out.cell 2
            have BCc3 : w7.cell? ⟨w.heap.size, 3, none⟩ = some (.int .i64 sp) := BC7.out.cell 3
            have BCc4 : w7.cell? ⟨w.heap.size, 4, none⟩ = some (.int .i64 cs) := BC7.out.cell 4
            have BCc5 : w7.cell? ⟨w.heap.size, 5, none⟩ = some (.int .u64 sa) := BC7.out.cell 5
            have BCl : w.heap.size < w7.heap.size := BC7.out.lt
            have XYc0 : w7.cell? ⟨w5.heap.size, 0, none⟩ = some (.slice A n c) := XY7.out.cell 0
            have XYc1 : w7.cell? ⟨w5.heap.size, 1, none⟩ = some (.slice X m e0) := XY7.out.cell 1
            have XYc2 : w7.cell? ⟨w5.heap.size, 2, none⟩ = some (.int .i64 4) := XY7.out.cell 2
            have XYc3 : w7.cell? ⟨w5.heap.size, 3, none⟩ = some (.int .i64 (k : Int)) := XY7.out.cell 3
            have XYc4 : w7.cell? ⟨w5.heap.size, 4, none⟩ = some (.int .i64 fi) := XY7.out.cell 4
            have XYc5 : w7.cell? ⟨w5.heap.size, 5, none⟩ = some (.int .u64 sa) := XY7.out.cell 5
            have XYl : w5.heap.size < w7.heap.size := XY7.out.lt
            have XZc0 : w7.cell? ⟨w6.heap.size, 0, none⟩ = some (.slice A n c) := XZ7.out.cell 0
            have XZc1 : w7.cell? ⟨w6.heap.size, 1, none⟩ = some (.slice X m e0) := XZ7.out.cell 1
            have XZc2 : w7.cell? ⟨w6.heap.size, 2, none⟩ = some (.int .i64 4) := XZ7.out.cell 2
            have XZc3 : w7.cell? ⟨w6.heap.size, 3, none⟩ = some (.int .i64 (k : Int)) := XZ7.out.cell 3
            have XZc4 : w7.cell? ⟨w6.heap.size, 4, none⟩ = some (.int .i64 fi) := XZ7.out.cell 4
            have XZc5 : w7.cell? ⟨w6.heap.size, 5, none⟩ = some (.int .u64 sa) := XZ7.out.cell 5
            have XZl : w6.heap.size < w7.heap.size := XZ7.out.lt
            go_wp2
            go_ret
            exact ⟨rfl, U7.out.below0⟩

  · skip
    refine (few_to (b := false) (by simp at hf ⊢; exact hf) hn1 hm1 _).mono ?_
    rintro e w2 ⟨rfl, hd⟩
    have hu : Upd (fun _ => False) w1 w2 := Upd.of_below hd (fun _ => False)
    have HA2 := Lib.hid (HA1.out.upd0 hu)
    have HS2 := Lib.hid (HS1.out.upd0 hu)
    have HSV2 := Lib.hid (HSV1.out.upd0 hu)
    have BC2 := Lib.hid (BC1.out.upd hu (fun h => h))
    have U2 := Lib.hid (U1.out.trans hu (fun _ h => h.elim))
    clear hd hu HA1 HS1 BC1 U1 HSV1 y0 y1 y2 y3 y4 y5 ly
    go_wp2
    go_ret
    exact ⟨rfl, U2.out.below0⟩
theorem callends_walk {w : World} (v0 : Value) (w0 : IsCall w v0) (a1 : Int) (w1 : (Lit.int .u8 a1).wf = true) (A2 : Option Addr) (len2 cap2 : Nat) (L2 : List (List Value)) (hL2 : L2.length = len2) (hlc2 : len2 ≤ cap2) (hm2 : cap2 ≤ maxLen) (hn2 : A2 = none → len2 = 0 ∧ cap2 = 0) (hok2 : ∀ row ∈ L2, Oks [.int .i64] row) (hr2 : Rows w A2 1 L2) :
    Calls Try.prog 4 #[v0, .int .u8 a1, .slice A2 len2 cap2] w fun e w' => e = .returned (.bool true) ∧ Below w.heap.size w w' := by
  obtain ⟨A, n, c, M, m, d, st, sp, cs, sa, xs, ms, rfl, hb⟩ := w0
  obtain ⟨vals, hvl, _, hsv⟩ := sl_nums hL2 hlc2 hm2 hn2 hok2 hr2
  unfold maxLen at hm2
  exact callends_any A M A2 n c m d cap2 len2 st sp cs sa a1 xs ms vals hb.hn hb.hm hvl hb.bn hb.bm (by omega) (u8_0 w1) (u8_1 w1) w hb.ha hb.hs hsv
end Go.Proofs.Ytilpcgipjfegcaa
