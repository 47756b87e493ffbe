/- The document's Ask. -/
import Derived.Test.YtninaaolbgchpaaDs
namespace Go.Proofs.Ytninaaolbgchpaa
open Go.RowKit
set_option linter.unusedVariables false
set_option linter.unusedSimpArgs false

theorem ent_take {E : List En} {q : K3} {k : Nat} {e : En} (h : E[k]? = some e) (hn : entK (E.take k) q = none) (hq : e.k ≠ q) : entK (E.take (k + 1)) q = none := by
  unfold entK at *
  rw [take_snoc h, List.find?_append, hn]
  simp [hq]
theorem ent_hit {E : List En} {q : K3} {k : Nat} {e : En} (h : E[k]? = some e) (hn : entK (E.take k) q = none) (hq : e.k = q) : entK E q = some e := by
  have h1 : E = E.take (k + 1) ++ E.drop (k + 1) := (List.take_append_drop _ _).symm
  unfold entK at *
  rw [h1, List.find?_append, take_snoc h, List.find?_append, hn]
  simp [hq]
section
variable {F : Nat → Prop} {A B : Option Addr} {n m c d : Nat} {E : List En} {J : List J2}
set_option maxHeartbeats 4000000 in
set_option maxRecDepth 100000 in
theorem rask_zero (k : K3) (hk : k.1 = 0) (id : Int) (w : World) (hA : Kp w F A n c (fl e8 E)) (hB : Kp w F B m d (prs J)) :
    Calls Try.prog 20 #[.agg #[.slice A n c, .slice B m d], kval k, .int .i64 id] w fun e w' => e = .returned (.tuple #[.agg #[.slice A n c, .slice B m d], .int .i64 1, kval (0, 0, 0)]) ∧ Kp w' F A n c (fl e8 E) ∧ Kp w' F B m d (prs J) ∧ Upd (fun _ => False) w w' := by
  obtain ⟨k1, k2, k3⟩ := k
  simp only at hk
  have HA := Lib.hid hA
  have HB := Lib.hid hB
  clear hA hB
  have hd0 : (k1 == 0) = true := by simp [hk]
  have HFIN : Hid (∀ W, Upd (fun i => i = (w.heap.size + 1 + 1) ∨ i = (w.heap.size + 1 + 1 + 1)) w W → Kp W F A n c (fl e8 E) ∧ Kp W F B m d (prs J) ∧ Upd (fun _ => False) w W) := Lib.hid (fun W hu => by
    have hw : Upd (fun _ => False) w W := hu.mono (fun i hi => .inr (by omega))
    exact ⟨HA.out.keep0 hw, HB.out.keep0 hw, hw⟩)
  go_enter Try.func20, Try.ntmps20
  go_wp2
  refine bodyPost_ret (v := .tuple #[.agg #[.slice A n c, .slice B m d], .int .i64 1, kval (0, 0, 0)]) (by simp [results, Try.results20, go_sem]) rfl ⟨rfl, HFIN.out _ (by repeat (first | exact Upd.refl _ _ | refine Upd.alloc ?_ _ | refine Upd.drew ?_ | refine Upd.drewN ?_ _ | refine Upd.set ?_ (.inl (.inl rfl)) _ | refine Upd.set ?_ (.inl (.inr rfl)) _))⟩
set_option maxHeartbeats 4000000 in
set_option maxRecDepth 100000 in
theorem rask_to (k : K3) (hk : k.1 ≠ 0) (id : Int) (hl : E.length = n) (hn : n ≤ 1000) (hm : J.length = m) (hm1 : m ≤ 1000) (w : World) (hF : ∀ k, F k → k < w.heap.size) (hA : Kp w F A n c (fl e8 E)) (hB : Kp w F B m d (prs J)) :
    Calls Try.prog 20 #[.agg #[.slice A n c, .slice B m d], kval k, .int .i64 id] w fun e w' => ∃ A' c' B' d', e = .returned (.tuple #[.agg #[.slice A' (askE E k id).length c', .slice B' (askJ E J k id).length d'], .int .i64 (askA E k), kval (askT E k)]) ∧ Kp w' F A' (askE E k id).length c' (fl e8 (askE E k id)) ∧ Kp w' F B' (askJ E J k id).length d' (prs (askJ E J k id)) ∧ Upd (fun _ => False) w w' := by
  obtain ⟨i0_, hj, hz0, hz1, hz2⟩ := info_parts infoE
  obtain ⟨p0_, pj, pz0, pz1, pz2⟩ := info_parts infoP
  obtain ⟨k1, k2, k3⟩ := k
  simp only at hk
  have HA := Lib.hid hA
  have HB := Lib.hid hB
  have HF := Lib.hid hF
  have HL := Lib.hid hl
  have HM := Lib.hid hm
  have hd0 : (k1 == 0) = false := by simp [hk]
  clear hA hB hF hl hm hk
  go_enter Try.func20, Try.ntmps20
  go_upto_region 3 with fail
  refine Code.gen (fun W => Upd (fun _ => False) w W ∧ Blk W w.heap.size 29 #[.slice A n c, .slice B m d] ∧ Blk W (w.heap.size + 1) 33 #[.int .i64 k1, .int .i64 k2, .int .i64 k3] ∧ Blk W (w.heap.size + 1 + 1) 29 #[.slice none 0 0, .slice none 0 0] ∧ Blk W (w.heap.size + 1 + 1 + 1) 35 #[.int .i64 0, .int .i64 0, .int .i64 0]) ⟨(by repeat (first | exact Upd.refl _ _ | refine Upd.alloc ?_ _ | refine Upd.drew ?_ | refine Upd.drewN ?_ _ | refine Upd.put ?_ _ _)), (((Blk.new w _ _).alloc _).alloc _).alloc _, ((Blk.new1 w _ _ _).alloc _).alloc _, (Blk.new2 w _ _ _ _).alloc _, Blk.new3 w _ _ _ _ _⟩ (fun w1 hW => ?_)
  obtain ⟨hu1, hb1, hb2, hb3, hb4⟩ := hW
  have HU1 := Lib.hid hu1
  have HX1 := Lib.hid hb1
  have HK1 := Lib.hid hb2
  have HR1 := Lib.hid hb3
  have HT1 := Lib.hid hb4
  have HB1 : Hid ((w.heap.size + 1 + 1 + 1) < w1.heap.size) := Lib.hid hb4.lt
  clear hu1 hb1 hb2 hb3 hb4
  go_wp2_with fail
  go_loopw [9] (fun iv wr => ∃ (k : Nat), k ≤ n ∧ iv = .int .i64 k ∧ Hid (entK (E.take k) (k1, k2, k3) = none) ∧ Hid (Upd (fun _ => False) w1 wr)) (fun iv _ => n - (intOf iv).toNat)
  case atStart => exact ⟨0, Nat.zero_le _, rfl, Lib.hid (by simp [entK]), Lib.hid (Upd.refl _ _)⟩
  case round =>
    obtain ⟨k, hk, rfl, HNO, HV⟩ := hrel
    have HU := Lib.hid (HU1.out.trans HV.out (fun _ h => h.elim))
    have i0 : (0 : Int) ≤ (k : Int) := Int.natCast_nonneg _
    have HX := Lib.hid (HX1.out.upd HV.out (fun h => h))
    have HK := Lib.hid (HK1.out.upd HV.out (fun h => h))
    have x0_ : wr.cell? ⟨w.heap.size, 0, none⟩ = some (.slice A n c) := HX.out.cell 0
    have x1_ : wr.cell? ⟨w.heap.size, 1, none⟩ = some (.slice B m d) := HX.out.cell 1
    have k0_ : wr.cell? ⟨(w.heap.size + 1), 0, none⟩ = some (.int .i64 k1) := HK.out.cell 0
    have k1_ : wr.cell? ⟨(w.heap.size + 1), 1, none⟩ = some (.int .i64 k2) := HK.out.cell 1
    have k2_ : wr.cell? ⟨(w.heap.size + 1), 2, none⟩ = some (.int .i64 k3) := HK.out.cell 2
    have xl := HX.out.lt
    have kl := HK.out.lt
    by_cases hkn : k < n
    · obtain ⟨x, hx⟩ : ∃ x, E[k]? = some x := ⟨E[k]'(by rw [HL.out]; exact hkn), List.getElem?_eq_getElem _⟩
      have i1 : (k : Int) < (n : Int) := by omega
      obtain ⟨b, o, hA', hb, c0, c1, c2, c3, c4, c5, c6, c7⟩ := HA.out.sl.en hx
      have HLT := Lib.hid hb
      have r0 := Lib.hid c0
      have r1 := Lib.hid c1
      have r2 := Lib.hid c2
      have r3 := Lib.hid c3
      have r4 := Lib.hid c4
      have r5 := Lib.hid c5
      have r6 := Lib.hid c6
      have r7 := Lib.hid c7
      clear hb c0 c1 c2 c3 c4 c5 c6 c7
      subst hA'
      have g0 : wr.cell? ⟨b, o + k * 8, none⟩ = some (.int .i64 x.k.1) := (HU.out.cellq (p := ⟨b, o + k * 8, none⟩) HLT.out (fun h => h)).trans r0.out
      have g1 : wr.cell? ⟨b, o + k * 8 + 1, none⟩ = some (.int .i64 x.k.2.1) := (HU.out.cellq (p := ⟨b, o + k * 8 + 1, none⟩) HLT.out (fun h => h)).trans r1.out
      have g2 : wr.cell? ⟨b, o + k * 8 + 2, none⟩ = some (.int .i64 x.k.2.2) := (HU.out.cellq (p := ⟨b, o + k * 8 + 2, none⟩) HLT.out (fun h => h)).trans r2.out
      have g3 : wr.cell? ⟨b, o + k * 8 + 3, none⟩ = some (.int .i64 x.id) := (HU.out.cellq (p := ⟨b, o + k * 8 + 3, none⟩) HLT.out (fun h => h)).trans r3.out
      have g4 : wr.cell? ⟨b, o + k * 8 + 4, none⟩ = some (.bool x.t.isSome) := (HU.out.cellq (p := ⟨b, o + k * 8 + 4, none⟩) HLT.out (fun h => h)).trans r4.out
      have g5 : wr.cell? ⟨b, o + k * 8 + 5, none⟩ = some (.int .i64 (tv x.t).1) := (HU.out.cellq (p := ⟨b, o + k * 8 + 5, none⟩) HLT.out (fun h => h)).trans r5.out
      have g6 : wr.cell? ⟨b, o + k * 8 + 6, none⟩ = some (.int .i64 (tv x.t).2.1) := (HU.out.cellq (p := ⟨b, o + k * 8 + 6, none⟩) HLT.out (fun h => h)).trans r6.out
      have g7 : wr.cell? ⟨b, o + k * 8 + 7, none⟩ = some (.int .i64 (tv x.t).2.2) := (HU.out.cellq (p := ⟨b, o + k * 8 + 7, none⟩) HLT.out (fun h => h)).trans r7.out
      have hbw : b < wr.heap.size := Nat.lt_of_lt_of_le HLT.out HU.out.size
      have hgd : ∀ (op : BinOp) (a b : Operand) (w : World), (eqGuard op 33 a b (.agg #[.int .i64 x.k.1, .int .i64 x.k.2.1, .int .i64 x.k.2.2]) (.agg #[.int .i64 k1, .int .i64 k2, .int .i64 k3])).run Try.prog w = .ok () w := fun op a b w => gdK op a b x.k (k1, k2, k3) w
      by_cases hq : x.k = (k1, k2, k3)
      · have heq : ∀ w, (Op.equalIn 10000 33 (.agg #[.int .i64 x.k.1, .int .i64 x.k.2.1, .int .i64 x.k.2.2]) (.agg #[.int .i64 k1, .int .i64 k2, .int .i64 k3])).run Try.prog w = .ok true w := fun w => by have h := eqK x.k (k1, k2, k3) w; rw [decide_eq_true hq] at h; exact h
        have HENT := Lib.hid (ent_hit hx HNO.out hq)
        clear hx hq
        obtain ⟨xk, xid, xt⟩ := x
        simp only at *
        cases xt with
        | some t =>
          have g4' : wr.cell? ⟨b, o + k * 8 + 4, none⟩ = some (.bool true) := g4
          clear g4
          go_wp2_with fail
          go_quiet (fail)
          go_upto_region 8 with fail
          refine Code.gen (fun W => Upd (fun _ => False) wr W) (by repeat (first | exact Upd.refl _ _ | refine Upd.alloc ?_ _ | refine Upd.drew ?_ | refine Upd.drewN ?_ _ | refine Upd.put ?_ _ _)) (fun w3 hW => ?_)
          have HV3 := Lib.hid (HV.out.trans hW (fun _ h => h.elim))
          have HU3 := Lib.hid (HU1.out.trans HV3.out (fun _ h => h.elim))
          have HX3 := Lib.hid (HX1.out.upd HV3.out (fun h => h))
          have y0_ : w3.cell? ⟨w.heap.size, 0, none⟩ = some (.slice (some ⟨b, o, none⟩) n c) := HX3.out.cell 0
          have y1_ : w3.cell? ⟨w.heap.size, 1, none⟩ = some (.slice B m d) := HX3.out.cell 1
          have yl := HX3.out.lt
          clear hW x0_ x1_ xl k0_ k1_ k2_ kl
          have h5' : w3.cell? ⟨b, o + k * 8 + 5, none⟩ = some (.int .i64 t.1) := (HU3.out.cellq (p := ⟨b, o + k * 8 + 5, none⟩) HLT.out (fun h => h)).trans r5.out
          have h6' : w3.cell? ⟨b, o + k * 8 + 6, none⟩ = some (.int .i64 t.2.1) := (HU3.out.cellq (p := ⟨b, o + k * 8 + 6, none⟩) HLT.out (fun h => h)).trans r6.out
          have h7' : w3.cell? ⟨b, o + k * 8 + 7, none⟩ = some (.int .i64 t.2.2) := (HU3.out.cellq (p := ⟨b, o + k * 8 + 7, none⟩) HLT.out (fun h => h)).trans r7.out
          have hbw3 : b < w3.heap.size := Nat.lt_of_lt_of_le HLT.out HU3.out.size
          have hbR : ¬ b = (w.heap.size + 1 + 1) := by have := HLT.out; omega
          have hbT : ¬ b = (w.heap.size + 1 + 1 + 1) := by have := HLT.out; omega
          have hbR' : ¬ (w.heap.size + 1 + 1) = b := by have := HLT.out; omega
          have hbT' : ¬ (w.heap.size + 1 + 1 + 1) = b := by have := HLT.out; omega
          have hXR : ¬ w.heap.size = (w.heap.size + 1 + 1) := by omega
          have hXT : ¬ w.heap.size = (w.heap.size + 1 + 1 + 1) := by omega
          have hXR' : ¬ (w.heap.size + 1 + 1) = w.heap.size := by omega
          have hXT' : ¬ (w.heap.size + 1 + 1 + 1) = w.heap.size := by omega
          have HRw := Lib.hid (HR1.out.upd HV3.out (fun h => h))
          have HTw := Lib.hid (HT1.out.upd HV3.out (fun h => h))
          have r0_ : w3.cell? ⟨(w.heap.size + 1 + 1), 0, none⟩ = some (.slice none 0 0) := HRw.out.cell 0
          have r1_ : w3.cell? ⟨(w.heap.size + 1 + 1), 1, none⟩ = some (.slice none 0 0) := HRw.out.cell 1
          have t0_ : w3.cell? ⟨(w.heap.size + 1 + 1 + 1), 0, none⟩ = some (.int .i64 0) := HTw.out.cell 0
          have t1_ : w3.cell? ⟨(w.heap.size + 1 + 1 + 1), 1, none⟩ = some (.int .i64 0) := HTw.out.cell 1
          have t2_ : w3.cell? ⟨(w.heap.size + 1 + 1 + 1), 2, none⟩ = some (.int .i64 0) := HTw.out.cell 2
          have rl := HRw.out.lt
          have tl := HTw.out.lt
          have rf : ∀ i, w3.frozen? ⟨(w.heap.size + 1 + 1), i, none⟩ = false := fun i => HRw.out.frz i
          have tf : ∀ i, w3.frozen? ⟨(w.heap.size + 1 + 1 + 1), i, none⟩ = false := fun i => HTw.out.frz i
          have HFIN : Hid (∀ W, Upd (fun i => i = (w.heap.size + 1 + 1) ∨ i = (w.heap.size + 1 + 1 + 1)) w3 W → Kp W F (some ⟨b, o, none⟩) (askE E (k1, k2, k3) id).length c (fl e8 (askE E (k1, k2, k3) id)) ∧ Kp W F B (askJ E J (k1, k2, k3) id).length d (prs (askJ E J (k1, k2, k3) id)) ∧ Upd (fun _ => False) w W) := Lib.hid (fun W hu => by
            have hw : Upd (fun _ => False) w W := HU3.out.trans hu (fun i hi => .inr (by omega))
            have e1 : askE E (k1, k2, k3) id = E := by unfold askE; rw [HENT.out]; rfl
            have e2 : askJ E J (k1, k2, k3) id = J := by unfold askJ; rw [HENT.out]
            rw [e1, e2, HL.out, HM.out]
            exact ⟨HA.out.keep0 hw, HB.out.keep0 hw, hw⟩)
          have HVAL : Hid ((Value.tuple #[.agg #[.slice (some ⟨b, o, none⟩) n c, .slice B m d], .int .i64 3, .agg #[.int .i64 t.1, .int .i64 t.2.1, .int .i64 t.2.2]]) = .tuple #[.agg #[.slice (some ⟨b, o, none⟩) (askE E (k1, k2, k3) id).length c, .slice B (askJ E J (k1, k2, k3) id).length d], .int .i64 (askA E (k1, k2, k3)), kval (askT E (k1, k2, k3))]) := Lib.hid (by
            have e1 : askE E (k1, k2, k3) id = E := by unfold askE; rw [HENT.out]; rfl
            have e2 : askJ E J (k1, k2, k3) id = J := by unfold askJ; rw [HENT.out]
            have e3 : askA E (k1, k2, k3) = 3 := by unfold askA; rw [HENT.out]
            have e4 : askT E (k1, k2, k3) = t := by unfold askT; rw [HENT.out]
            rw [e1, e2, e3, e4, HL.out, HM.out])
          go_wp2_with fail
          go_region_held3 (fun w' => w'.cell? ⟨w.heap.size, 0, none⟩ = some (.slice (some ⟨b, o, none⟩) n c) ∧ w'.cell? ⟨w.heap.size, 1, none⟩ = some (.slice B m d) ∧ w'.cell? ⟨b, o + k * 8 + 5, none⟩ = some (.int .i64 t.1) ∧ w'.cell? ⟨b, o + k * 8 + 6, none⟩ = some (.int .i64 t.2.1) ∧ w'.cell? ⟨b, o + k * 8 + 7, none⟩ = some (.int .i64 t.2.2)) (go_keep) (fail)
          all_goals
            go_wp2
          all_goals refine bodyPost_ret (v := .tuple #[.agg #[.slice (some ⟨b, o, none⟩) n c, .slice B m d], .int .i64 3, .agg #[.int .i64 t.1, .int .i64 t.2.1, .int .i64 t.2.2]]) (by simp [results, Try.results20, go_sem, cell_drew, r0_, r1_, t0_, t1_, t2_, rl, tl]) rfl ⟨_, _, _, _, congrArg Ending.returned HVAL.out, HFIN.out _ (by repeat (first | exact Upd.refl _ _ | refine Upd.alloc ?_ _ | refine Upd.drew ?_ | refine Upd.drewN ?_ _ | refine Upd.set ?_ (.inl (.inl rfl)) _ | refine Upd.set ?_ (.inl (.inr rfl)) _))⟩
        | none =>
          go_wp2_with fail
          go_quiet (fail)
          go_upto_region 9 with fail
          refine Code.gen (fun W => Upd (fun _ => False) wr W) (by repeat (first | exact Upd.refl _ _ | refine Upd.alloc ?_ _ | refine Upd.drew ?_ | refine Upd.drewN ?_ _ | refine Upd.put ?_ _ _)) (fun w3 hW => ?_)
          have HV3 := Lib.hid (HV.out.trans hW (fun _ h => h.elim))
          have HU3 := Lib.hid (HU1.out.trans HV3.out (fun _ h => h.elim))
          have HX3 := Lib.hid (HX1.out.upd HV3.out (fun h => h))
          have y0_ : w3.cell? ⟨w.heap.size, 0, none⟩ = some (.slice (some ⟨b, o, none⟩) n c) := HX3.out.cell 0
          have y1_ : w3.cell? ⟨w.heap.size, 1, none⟩ = some (.slice B m d) := HX3.out.cell 1
          have yl := HX3.out.lt
          clear hW x0_ x1_ xl k0_ k1_ k2_ kl
          obtain ⟨v1, w4, hr1, ho1, hu1⟩ := run_append_sl (P := Try.prog) (w3.alloc (.cells #[] 75)) w3.heap.size 27 27 75 p0_ (.agg #[.int .i64 0, .int .i64 0]) 2 16 Try.underlying27 pj pz0 pz1 pz2 rfl (by decide) (.slice (some ⟨w3.heap.size, 0, none⟩) 0 0) 0 [] (own_empty (Blk.new w3 #[] 75) (Nat.le_refl _)) B m d (prs J) (HB.out.sl.upd0 (HU3.out.alloc _)) (by rw [prs_len, HM.out]) (prs_one _) (by unfold maxLen; omega) (by omega) (by simp)
          rw [Nat.zero_add, List.nil_append] at ho1
          have HV4 : Hid (Upd (fun _ => False) w1 w4) := Lib.hid ((HV3.out.alloc _).trans hu1 (fun i hi => .inr (by simp only [Value.ownBlock, Option.some.injEq] at hi; subst hi; exact HV3.out.size)))
          have HG1 : Hid (∀ b, v1.ownBlock = some b → w1.heap.size ≤ b) := Lib.hid (fun b hb => Nat.le_trans HV3.out.size (own_ge ho1 hb))
          obtain ⟨v2, w6, hr2, ho2, hu2⟩ := run_append_sl (P := Try.prog) (w4.alloc (.cells #[.int .i64 xid, .int .i64 id] 75)) w3.heap.size 27 27 75 p0_ (.agg #[.int .i64 0, .int .i64 0]) 2 16 Try.underlying27 pj pz0 pz1 pz2 rfl (by decide) v1 m (prs J) (own_alloc ho1 _) (some ⟨w4.heap.size, 0, none⟩) 1 1 (prs [(xid, id)]) (Sl.newc w4 #[.int .i64 xid, .int .i64 id] _ 1 (by decide)) rfl (by exact prs_one _) (by unfold maxLen; omega) (by omega) (by have := hu1.size; simp at *; omega)
          have HV6 : Hid (Upd (fun _ => False) w1 w6) := Lib.hid ((HV4.out.alloc _).trans hu2 (fun i hi => .inr (HG1.out i hi)))
          obtain ⟨A2, cp2, rfl, hs2, hg2⟩ := Sl.of_own ho2
          have HS2 : Hid (Sl w6 A2 (m + 1) cp2 (prs (J ++ [(xid, id)])) ∧ ∀ b o, A2 = some ⟨b, o, none⟩ → w1.heap.size ≤ b) := Lib.hid ⟨by rw [prs_app]; exact hs2, fun b o e => Nat.le_trans HV3.out.size (hg2 b o e)⟩
          clear ho1 hu1 ho2 hu2 hs2 hg2
          have HU4 := Lib.hid (HU1.out.trans HV4.out (fun _ h => h.elim))
          have HU6 := Lib.hid (HU1.out.trans HV6.out (fun _ h => h.elim))
          have hx4 := HX1.out.upd HV4.out (fun h => h)
          have hx6 := HX1.out.upd HV6.out (fun h => h)
          have p0_ : w4.cell? ⟨w.heap.size, 0, none⟩ = some (.slice (some ⟨b, o, none⟩) n c) := hx4.cell 0
          have p1_ : w4.cell? ⟨w.heap.size, 1, none⟩ = some (.slice B m d) := hx4.cell 1
          have m0_ : w6.cell? ⟨w.heap.size, 0, none⟩ = some (.slice (some ⟨b, o, none⟩) n c) := hx6.cell 0
          have m1_ : w6.cell? ⟨w.heap.size, 1, none⟩ = some (.slice B m d) := hx6.cell 1
          have pl := hx4.lt
          have ml := hx6.lt
          have hbw4 : b < w4.heap.size := Nat.lt_of_lt_of_le HLT.out HU4.out.size
          have i4_ : w4.cell? ⟨b, o + k * 8 + 3, none⟩ = some (.int .i64 xid) := (HU4.out.cellq (p := ⟨b, o + k * 8 + 3, none⟩) HLT.out (fun h => h)).trans r3.out
          clear hx4 hx6
          have HRw := Lib.hid (HR1.out.upd HV6.out (fun h => h))
          have HTw := Lib.hid (HT1.out.upd HV6.out (fun h => h))
          have r0_ : w6.cell? ⟨(w.heap.size + 1 + 1), 0, none⟩ = some (.slice none 0 0) := HRw.out.cell 0
          have r1_ : w6.cell? ⟨(w.heap.size + 1 + 1), 1, none⟩ = some (.slice none 0 0) := HRw.out.cell 1
          have t0_ : w6.cell? ⟨(w.heap.size + 1 + 1 + 1), 0, none⟩ = some (.int .i64 0) := HTw.out.cell 0
          have t1_ : w6.cell? ⟨(w.heap.size + 1 + 1 + 1), 1, none⟩ = some (.int .i64 0) := HTw.out.cell 1
          have t2_ : w6.cell? ⟨(w.heap.size + 1 + 1 + 1), 2, none⟩ = some (.int .i64 0) := HTw.out.cell 2
          have rl := HRw.out.lt
          have tl := HTw.out.lt
          have rf : ∀ i, w6.frozen? ⟨(w.heap.size + 1 + 1), i, none⟩ = false := fun i => HRw.out.frz i
          have tf : ∀ i, w6.frozen? ⟨(w.heap.size + 1 + 1 + 1), i, none⟩ = false := fun i => HTw.out.frz i
          have HEQ : Hid (askE E (k1, k2, k3) id = E ∧ askJ E J (k1, k2, k3) id = J ++ [(xid, id)] ∧ askA E (k1, k2, k3) = 2 ∧ askT E (k1, k2, k3) = (0, 0, 0)) := Lib.hid ⟨by unfold askE; rw [HENT.out]; rfl, by unfold askJ; rw [HENT.out], by unfold askA; rw [HENT.out], by unfold askT; rw [HENT.out]⟩
          have HFIN : Hid (∀ W, Upd (fun i => i = (w.heap.size + 1 + 1) ∨ i = (w.heap.size + 1 + 1 + 1)) w6 W → Kp W F (some ⟨b, o, none⟩) (askE E (k1, k2, k3) id).length c (fl e8 (askE E (k1, k2, k3) id)) ∧ Kp W F A2 (askJ E J (k1, k2, k3) id).length cp2 (prs (askJ E J (k1, k2, k3) id)) ∧ Upd (fun _ => False) w W) := Lib.hid (fun W hu => by
            have hw : Upd (fun _ => False) w W := HU6.out.trans hu (fun i hi => .inr (by omega))
            obtain ⟨e1, e2, e3, e4⟩ := HEQ.out
            rw [e1, e2, HL.out, List.length_append, HM.out]
            exact ⟨HA.out.keep0 hw, Kp.of_new (HS2.out.1.upd hu (fun b o e hb => by have h1 := HS2.out.2 b o e; have h2 := HB1.out; omega)) (fun b o e hf => by have h1 := HS2.out.2 b o e; have h2 := HF.out b hf; have h3 := HU1.out.size; omega), hw⟩)
          have HVAL : Hid ((Value.tuple #[.agg #[.slice (some ⟨b, o, none⟩) n c, .slice A2 (m + 1) cp2], .int .i64 2, .agg #[.int .i64 0, .int .i64 0, .int .i64 0]]) = .tuple #[.agg #[.slice (some ⟨b, o, none⟩) (askE E (k1, k2, k3) id).length c, .slice A2 (askJ E J (k1, k2, k3) id).length cp2], .int .i64 (askA E (k1, k2, k3)), kval (askT E (k1, k2, k3))]) := Lib.hid (by
            obtain ⟨e1, e2, e3, e4⟩ := HEQ.out
            rw [e1, e2, e3, e4, HL.out, List.length_append, HM.out]
            rfl)
          go_wp2_with (at_builtin; first | refine wpList_append_run _ rfl _ _ _ rfl rfl rfl hr1 ?_ | refine wpList_append_run _ rfl _ _ _ rfl rfl rfl hr2 ?_)
          refine bodyPost_ret (v := .tuple #[.agg #[.slice (some ⟨b, o, none⟩) n c, .slice A2 (m + 1) cp2], .int .i64 2, .agg #[.int .i64 0, .int .i64 0, .int .i64 0]]) (by simp [results, Try.results20, go_sem, cell_drew, r0_, r1_, t0_, t1_, t2_, rl, tl]) rfl ⟨_, _, _, _, congrArg Ending.returned HVAL.out, HFIN.out _ (by repeat (first | exact Upd.refl _ _ | refine Upd.alloc ?_ _ | refine Upd.drew ?_ | refine Upd.drewN ?_ _ | refine Upd.set ?_ (.inl (.inl rfl)) _ | refine Upd.set ?_ (.inl (.inr rfl)) _))⟩
      · have heq : ∀ w, (Op.equalIn 10000 33 (.agg #[.int .i64 x.k.1, .int .i64 x.k.2.1, .int .i64 x.k.2.2]) (.agg #[.int .i64 k1, .int .i64 k2, .int .i64 k3])).run Try.prog w = .ok false w := fun w => by have h := eqK x.k (k1, k2, k3) w; rw [decide_eq_false hq] at h; exact h
        have HNX := Lib.hid (ent_take hx HNO.out hq)
        clear hx hq
        go_wp2_with fail
        go_quiet (fail)
        go_wp2
        go_roundw
        case rel => exact ⟨k + 1, by omega, by go_num, HNX, Lib.hid (HV.out.drewN _)⟩
        case measure => simp [intOf]; omega
    · obtain rfl : k = n := by omega
      have HENT : Hid (entK E (k1, k2, k3) = none) := Lib.hid (by have h := HNO.out; rwa [List.take_of_length_le (by rw [HL.out]; exact Nat.le_refl _)] at h)
      go_upto_region 12 with fail
      obtain ⟨v1, w4, hr1, ho1, hu1⟩ := run_append_sl (P := Try.prog) (wr.alloc (.cells #[] 41)) wr.heap.size 26 26 41 i0_ (.agg #[.int .i64 0, .int .i64 0, .int .i64 0, .int .i64 0, .bool false, .int .i64 0, .int .i64 0, .int .i64 0]) 8 64 Try.underlying26 hj hz0 hz1 hz2 rfl (by decide) (.slice (some ⟨wr.heap.size, 0, none⟩) 0 0) 0 [] (own_empty (Blk.new wr #[] 41) (Nat.le_refl _)) A k c (fl e8 E) (HA.out.sl.upd0 (HU.out.alloc _)) (by rw [fl_len e8_len, HL.out]) (e8_one _) (by unfold maxLen; omega) (by omega) (by simp)
      rw [Nat.zero_add, List.nil_append] at ho1
      have HV4 : Hid (Upd (fun _ => False) w1 w4) := Lib.hid ((HV.out.alloc _).trans hu1 (fun i hi => .inr (by simp only [Value.ownBlock, Option.some.injEq] at hi; subst hi; exact HV.out.size)))
      have HG1 : Hid (∀ b, v1.ownBlock = some b → w1.heap.size ≤ b) := Lib.hid (fun b hb => Nat.le_trans HV.out.size (own_ge ho1 hb))
      obtain ⟨v2, w6, hr2, ho2, hu2⟩ := run_append_sl (P := Try.prog) (w4.alloc (.cells #[.int .i64 k1, .int .i64 k2, .int .i64 k3, .int .i64 id, .bool false, .int .i64 0, .int .i64 0, .int .i64 0] 41)) wr.heap.size 26 26 41 i0_ (.agg #[.int .i64 0, .int .i64 0, .int .i64 0, .int .i64 0, .bool false, .int .i64 0, .int .i64 0, .int .i64 0]) 8 64 Try.underlying26 hj hz0 hz1 hz2 rfl (by decide) v1 k (fl e8 E) (own_alloc ho1 _) (some ⟨w4.heap.size, 0, none⟩) 1 1 (e8 ⟨(k1, k2, k3), id, none⟩) (Sl.newc w4 #[.int .i64 k1, .int .i64 k2, .int .i64 k3, .int .i64 id, .bool false, .int .i64 0, .int .i64 0, .int .i64 0] _ 1 (by decide)) rfl (by have := e8_one [(⟨(k1, k2, k3), id, none⟩ : En)]; rwa [fl_one] at this) (by unfold maxLen; omega) (by omega) (by have := hu1.size; simp at *; omega)
      have HV6 : Hid (Upd (fun _ => False) w1 w6) := Lib.hid ((HV4.out.alloc _).trans hu2 (fun i hi => .inr (HG1.out i hi)))
      obtain ⟨A2, cp2, rfl, hs2, hg2⟩ := Sl.of_own ho2
      have HS2 : Hid (Sl w6 A2 (k + 1) cp2 (fl e8 (E ++ [⟨(k1, k2, k3), id, none⟩])) ∧ ∀ b o, A2 = some ⟨b, o, none⟩ → w1.heap.size ≤ b) := Lib.hid ⟨by rw [fl_snoc]; exact hs2, fun b o e => Nat.le_trans HV.out.size (hg2 b o e)⟩
      clear ho1 hu1 ho2 hu2 hs2 hg2
      have HU4 := Lib.hid (HU1.out.trans HV4.out (fun _ h => h.elim))
      have HU6 := Lib.hid (HU1.out.trans HV6.out (fun _ h => h.elim))
      have hx4 := HX1.out.upd HV4.out (fun h => h)
      have hx6 := HX1.out.upd HV6.out (fun h => h)
      have p0_ : w4.cell? ⟨w.heap.size, 0, none⟩ = some (.slice A k c) := hx4.cell 0
      have p1_ : w4.cell? ⟨w.heap.size, 1, none⟩ = some (.slice B m d) := hx4.cell 1
      have m0_ : w6.cell? ⟨w.heap.size, 0, none⟩ = some (.slice A k c) := hx6.cell 0
      have m1_ : w6.cell? ⟨w.heap.size, 1, none⟩ = some (.slice B m d) := hx6.cell 1
      have pl := hx4.lt
      have ml := hx6.lt
      have hk4 := HK1.out.upd HV4.out (fun h => h)
      have s0_ : w4.cell? ⟨(w.heap.size + 1), 0, none⟩ = some (.int .i64 k1) := hk4.cell 0
      have s1_ : w4.cell? ⟨(w.heap.size + 1), 1, none⟩ = some (.int .i64 k2) := hk4.cell 1
      have s2_ : w4.cell? ⟨(w.heap.size + 1), 2, none⟩ = some (.int .i64 k3) := hk4.cell 2
      have sl := hk4.lt
      clear hk4
      clear hx4 hx6
      have HRw := Lib.hid (HR1.out.upd HV6.out (fun h => h))
      have HTw := Lib.hid (HT1.out.upd HV6.out (fun h => h))
      have r0_ : w6.cell? ⟨(w.heap.size + 1 + 1), 0, none⟩ = some (.slice none 0 0) := HRw.out.cell 0
      have r1_ : w6.cell? ⟨(w.heap.size + 1 + 1), 1, none⟩ = some (.slice none 0 0) := HRw.out.cell 1
      have t0_ : w6.cell? ⟨(w.heap.size + 1 + 1 + 1), 0, none⟩ = some (.int .i64 0) := HTw.out.cell 0
      have t1_ : w6.cell? ⟨(w.heap.size + 1 + 1 + 1), 1, none⟩ = some (.int .i64 0) := HTw.out.cell 1
      have t2_ : w6.cell? ⟨(w.heap.size + 1 + 1 + 1), 2, none⟩ = some (.int .i64 0) := HTw.out.cell 2
      have rl := HRw.out.lt
      have tl := HTw.out.lt
      have rf : ∀ i, w6.frozen? ⟨(w.heap.size + 1 + 1), i, none⟩ = false := fun i => HRw.out.frz i
      have tf : ∀ i, w6.frozen? ⟨(w.heap.size + 1 + 1 + 1), i, none⟩ = false := fun i => HTw.out.frz i
      have HEQ : Hid (askE E (k1, k2, k3) id = E ++ [⟨(k1, k2, k3), id, none⟩] ∧ askJ E J (k1, k2, k3) id = J ∧ askA E (k1, k2, k3) = 1 ∧ askT E (k1, k2, k3) = (0, 0, 0)) := Lib.hid ⟨by unfold askE; rw [HENT.out]; rfl, by unfold askJ; rw [HENT.out], by unfold askA; rw [HENT.out], by unfold askT; rw [HENT.out]⟩
      have HFIN : Hid (∀ W, Upd (fun i => i = (w.heap.size + 1 + 1) ∨ i = (w.heap.size + 1 + 1 + 1)) w6 W → Kp W F A2 (askE E (k1, k2, k3) id).length cp2 (fl e8 (askE E (k1, k2, k3) id)) ∧ Kp W F B (askJ E J (k1, k2, k3) id).length d (prs (askJ E J (k1, k2, k3) id)) ∧ Upd (fun _ => False) w W) := Lib.hid (fun W hu => by
        have hw : Upd (fun _ => False) w W := HU6.out.trans hu (fun i hi => .inr (by omega))
        obtain ⟨e1, e2, e3, e4⟩ := HEQ.out
        rw [e1, e2, List.length_append, HL.out, HM.out]
        exact ⟨Kp.of_new (HS2.out.1.upd hu (fun b o e hb => by have h1 := HS2.out.2 b o e; have h2 := HB1.out; omega)) (fun b o e hf => by have h1 := HS2.out.2 b o e; have h2 := HF.out b hf; have h3 := HU1.out.size; omega), HB.out.keep0 hw, hw⟩)
      have HVAL : Hid ((Value.tuple #[.agg #[.slice A2 (k + 1) cp2, .slice B m d], .int .i64 1, .agg #[.int .i64 0, .int .i64 0, .int .i64 0]]) = .tuple #[.agg #[.slice A2 (askE E (k1, k2, k3) id).length cp2, .slice B (askJ E J (k1, k2, k3) id).length d], .int .i64 (askA E (k1, k2, k3)), kval (askT E (k1, k2, k3))]) := Lib.hid (by
        obtain ⟨e1, e2, e3, e4⟩ := HEQ.out
        rw [e1, e2, e3, e4, List.length_append, HL.out, HM.out]
        rfl)
      go_wp2_with (at_builtin; first | refine wpList_append_run _ rfl _ _ _ rfl rfl rfl hr1 ?_ | refine wpList_append_run _ rfl _ _ _ rfl rfl rfl hr2 ?_)
      refine bodyPost_ret (v := .tuple #[.agg #[.slice A2 (k + 1) cp2, .slice B m d], .int .i64 1, .agg #[.int .i64 0, .int .i64 0, .int .i64 0]]) (by simp [results, Try.results20, go_sem, cell_drew, r0_, r1_, t0_, t1_, t2_, rl, tl]) rfl ⟨_, _, _, _, congrArg Ending.returned HVAL.out, HFIN.out _ (by repeat (first | exact Upd.refl _ _ | refine Upd.alloc ?_ _ | refine Upd.drew ?_ | refine Upd.drewN ?_ _ | refine Upd.set ?_ (.inl (.inl rfl)) _ | refine Upd.set ?_ (.inl (.inr rfl)) _))⟩
end
end Go.Proofs.Ytninaaolbgchpaa
