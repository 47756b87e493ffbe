/- The document's Settle. -/
import Derived.Test.YtninaaolbgchpaaDe
namespace Go.Proofs.Ytninaaolbgchpaa
open Go.RowKit
set_option linter.unusedVariables false
set_option linter.unusedSimpArgs false

/-- An entry, settled. -/
def se (e : En) (id : Int) (t : K3) : En := if e.id = id then { e with t := some t } else e
theorem setE_take {E : List En} {id : Int} {t : K3} {k : Nat} {e : En} (h : E[k]? = some e) : setE (E.take (k + 1)) id t = setE (E.take k) id t ++ [se e id t] := by
  unfold setE
  rw [take_snoc h, List.map_append]
  rfl
theorem setJ_take {J : List J2} {id : Int} {k : Nat} {p : J2} (h : J[k]? = some p) : setJ (J.take (k + 1)) id = if p.1 = id then setJ (J.take k) id else setJ (J.take k) id ++ [p] := by
  unfold setJ
  rw [take_snoc h, List.filter_append]
  by_cases hc : p.1 = id
  · simp [hc]
  · simp [hc]
theorem setL_take {J : List J2} {id : Int} {k : Nat} {p : J2} (h : J[k]? = some p) : setL (J.take (k + 1)) id = if p.1 = id then setL (J.take k) id ++ [p.2] else setL (J.take k) id := by
  unfold setL
  rw [take_snoc h, List.filter_append, List.map_append]
  by_cases hc : p.1 = id
  · simp [hc]
  · simp [hc]
theorem setE_len (E : List En) (id : Int) (t : K3) : (setE E id t).length = E.length := List.length_map _
section
variable {F : Nat → Prop} {A B : Option Addr} {n m c d : Nat} {E : List En} {J : List J2}
set_option maxHeartbeats 4000000 in
set_option maxRecDepth 100000 in
theorem rsettle_to (id : Int) (t : K3) (hl : E.length = n) (hn : n ≤ 1000) (hm : J.length = m) (hm1 : m ≤ 1000) (w : World) (hF : ∀ k, F k → k < w.heap.size) (hA : Kp w F A n c (fl e8 E)) (hB : Kp w F B m d (prs J)) :
    Calls Try.prog 21 #[.agg #[.slice A n c, .slice B m d], .int .i64 id, kval t] w fun e w' => ∃ A' c' B' d' L' l', e = .returned (.tuple #[.agg #[.slice A' n c', .slice B' (setJ J id).length d'], .slice L' (setL J id).length l']) ∧ Kp w' F A' n c' (fl e8 (setE E id t)) ∧ Kp w' F B' (setJ J id).length d' (prs (setJ J id)) ∧ Kp w' F L' (setL J id).length l' (nums (setL J id)) ∧ Upd (fun _ => False) w w' := by
  obtain ⟨i0_, hj, hz0, hz1, hz2⟩ := info_parts infoE
  obtain ⟨p0_, pj, pz0, pz1, pz2⟩ := info_parts infoP
  obtain ⟨q0_, qj, qz0, qz1, qz2⟩ := info_parts infoI
  have HA := Lib.hid hA
  have HB := Lib.hid hB
  have HF := Lib.hid hF
  have HL := Lib.hid hl
  have HM := Lib.hid hm
  clear hA hB hF hl hm
  go_enter Try.func21, Try.ntmps21
  go_upto_region 2 with fail
  refine Code.gen (fun W => Upd (fun _ => False) w W ∧ Blk W w.heap.size 29 #[.slice A n c, .slice B m d] ∧ Blk W (w.heap.size + 1) 35 (kcs t) ∧ Blk W (w.heap.size + 1 + 1) 29 #[.slice none 0 0, .slice none 0 0] ∧ Blk W (w.heap.size + 1 + 1 + 1) 29 #[.slice none 0 0, .slice none 0 0]) ⟨(by repeat (first | exact Upd.refl _ _ | refine Upd.alloc ?_ _ | refine Upd.drew ?_ | refine Upd.drewN ?_ _ | refine Upd.put ?_ _ _)), (((Blk.new w _ _).alloc _).alloc _).alloc _, ((Blk.new1 w _ _ _).alloc _).alloc _, (Blk.new2 w _ _ _ _).alloc _, Blk.new3 w _ _ _ _ _⟩ (fun w1 hW => ?_)
  obtain ⟨hu1, hb1, hb2, hb3, hb4⟩ := hW
  have HU1 := Lib.hid hu1
  have HX1 := Lib.hid hb1
  have HT1 := Lib.hid hb2
  have HR1 := Lib.hid hb3
  have HO1 := Lib.hid hb4
  have HB1 : Hid ((w.heap.size + 1 + 1 + 1) < w1.heap.size) := Lib.hid hb4.lt
  clear hu1 hb1 hb2 hb3 hb4
  go_upto_block 0 with fail
  go_cut [9] from 14 to 38 (fun v wx => ∃ A3 c3, Hid (wx.ownsRow w1.heap.size 41 8 (.slice A3 n c3) n (fl e8 (setE E id t))) ∧ Hid (Blk wx w.heap.size 29 #[.slice A n c, .slice B m d]) ∧ Hid (Blk wx (w.heap.size + 1 + 1) 29 #[.slice none 0 0, .slice none 0 0]) ∧ Hid (Blk wx (w.heap.size + 1 + 1 + 1) 29 #[.slice A3 n c3, .slice none 0 0]) ∧ Hid (w1.heap.size ≤ wx.heap.size) ∧ Hid (Upd (fun _ => False) w wx))
  case first =>
    go_wp2_with fail
    go_loopw [9] (fun iv wr => ∃ (k : Nat) (v : Value), k ≤ n ∧ iv = .int .i64 k ∧ Hid (wr.ownsRow w1.heap.size 41 8 v k (fl e8 (setE (E.take k) id t))) ∧ Hid (Blk wr w.heap.size 29 #[.slice A n c, .slice B m d]) ∧ Hid (Blk wr (w.heap.size + 1) 35 (kcs t)) ∧ Hid (Blk wr (w.heap.size + 1 + 1) 29 #[.slice none 0 0, .slice none 0 0]) ∧ Hid (Blk wr (w.heap.size + 1 + 1 + 1) 29 #[v, .slice none 0 0]) ∧ Hid (w1.heap.size ≤ wr.heap.size) ∧ Hid (Upd (fun _ => False) w wr)) (fun iv _ => n - (intOf iv).toNat)
    case atStart => exact ⟨0, _, Nat.zero_le _, rfl, Lib.hid (by simpa [setE, fl] using own_nil w1 w1.heap.size 41 8), HX1, HT1, HR1, HO1, Lib.hid (Nat.le_refl _), HU1⟩
    case round =>
      obtain ⟨k, v, hk, rfl, HV, HX, HT, HR, HO, HW, HU⟩ := hrel
      have i0 : (0 : Int) ≤ (k : Int) := Int.natCast_nonneg _
      have x0_ : wr.cell? ⟨w.heap.size, 0, none⟩ = some (.slice A n c) := HX.out.cell 0
      have xl := HX.out.lt
      by_cases hkn : k < n
      · obtain ⟨x, hx⟩ : ∃ x, E[k]? = some x := ⟨E[k]'(by rw [HL.out]; exact hkn), List.getElem?_eq_getElem _⟩
        have i1 : (k : Int) < (n : Int) := by omega
        obtain ⟨b, o, hA', hb, c0, c1, c2, c3, c4, c5, c6, c7⟩ := HA.out.sl.en hx
        have HLT := Lib.hid hb
        have r0 := Lib.hid c0
        have r1 := Lib.hid c1
        have r2 := Lib.hid c2
        have r3 := Lib.hid c3
        have r4 := Lib.hid c4
        have r5 := Lib.hid c5
        have r6 := Lib.hid c6
        have r7 := Lib.hid c7
        clear hb c0 c1 c2 c3 c4 c5 c6 c7
        have HTK := Lib.hid (setE_take (id := id) (t := t) hx)
        clear hx
        subst hA'
        have g0 : wr.cell? ⟨b, o + k * 8, none⟩ = some (.int .i64 x.k.1) := (HU.out.cellq (p := ⟨b, o + k * 8, none⟩) HLT.out (fun h => h)).trans r0.out
        have g1 : wr.cell? ⟨b, o + k * 8 + 1, none⟩ = some (.int .i64 x.k.2.1) := (HU.out.cellq (p := ⟨b, o + k * 8 + 1, none⟩) HLT.out (fun h => h)).trans r1.out
        have g2 : wr.cell? ⟨b, o + k * 8 + 2, none⟩ = some (.int .i64 x.k.2.2) := (HU.out.cellq (p := ⟨b, o + k * 8 + 2, none⟩) HLT.out (fun h => h)).trans r2.out
        have g3 : wr.cell? ⟨b, o + k * 8 + 3, none⟩ = some (.int .i64 x.id) := (HU.out.cellq (p := ⟨b, o + k * 8 + 3, none⟩) HLT.out (fun h => h)).trans r3.out
        have g4 : wr.cell? ⟨b, o + k * 8 + 4, none⟩ = some (.bool x.t.isSome) := (HU.out.cellq (p := ⟨b, o + k * 8 + 4, none⟩) HLT.out (fun h => h)).trans r4.out
        have g5 : wr.cell? ⟨b, o + k * 8 + 5, none⟩ = some (.int .i64 (tv x.t).1) := (HU.out.cellq (p := ⟨b, o + k * 8 + 5, none⟩) HLT.out (fun h => h)).trans r5.out
        have g6 : wr.cell? ⟨b, o + k * 8 + 6, none⟩ = some (.int .i64 (tv x.t).2.1) := (HU.out.cellq (p := ⟨b, o + k * 8 + 6, none⟩) HLT.out (fun h => h)).trans r6.out
        have g7 : wr.cell? ⟨b, o + k * 8 + 7, none⟩ = some (.int .i64 (tv x.t).2.2) := (HU.out.cellq (p := ⟨b, o + k * 8 + 7, none⟩) HLT.out (fun h => h)).trans r7.out
        have hbw : b < wr.heap.size := Nat.lt_of_lt_of_le HLT.out HU.out.size
        have z0_ : wr.cell? ⟨(w.heap.size + 1), 0, none⟩ = some (.int .i64 t.1) := HT.out.cell 0
        have z1_ : wr.cell? ⟨(w.heap.size + 1), 1, none⟩ = some (.int .i64 t.2.1) := HT.out.cell 1
        have z2_ : wr.cell? ⟨(w.heap.size + 1), 2, none⟩ = some (.int .i64 t.2.2) := HT.out.cell 2
        have zl := HT.out.lt
        by_cases hs : x.id = id
        · have hne : (x.id == id) = true := by simp [hs]
          have HSE : Hid (e8 (se x id t) = [.int .i64 x.k.1, .int .i64 x.k.2.1, .int .i64 x.k.2.2, .int .i64 x.id, .bool true, .int .i64 t.1, .int .i64 t.2.1, .int .i64 t.2.2]) := Lib.hid (by unfold se; rw [if_pos hs]; rfl)
          clear hs
          go_upto_region 9 with fail
          refine Code.gen (fun W => Upd (fun _ => False) wr W ∧ Blk W wr.heap.size 41 #[.int .i64 x.k.1, .int .i64 x.k.2.1, .int .i64 x.k.2.2, .int .i64 x.id, .bool true, .int .i64 t.1, .int .i64 t.2.1, .int .i64 t.2.2]) ⟨by repeat (first | exact Upd.refl _ _ | refine Upd.alloc ?_ _), Blk.new wr _ _⟩ (fun w5 hW => ?_)
          clear x0_ xl z0_ z1_ z2_ zl
          clear g0 g1 g2 g3 g4 g5 g6 g7
          obtain ⟨hu5, hb5⟩ := hW
          have HU5 : Hid (Upd (fun _ => False) w w5) := Lib.hid (HU.out.trans hu5 (fun _ h => h.elim))
          have HE5 := Lib.hid hb5
          have HV5 := Lib.hid (own_upd0 HV.out hu5)
          have HX5 := Lib.hid (HX.out.upd hu5 (fun h => h))
          have HT5 := Lib.hid (HT.out.upd hu5 (fun h => h))
          have HR5 := Lib.hid (HR.out.upd hu5 (fun h => h))
          have HO5 := Lib.hid (HO.out.upd hu5 (fun h => h))
          have HW5 : Hid (w1.heap.size ≤ w5.heap.size) := Lib.hid (Nat.le_trans HW.out hu5.size)
          clear hu5 hb5
          obtain ⟨v2, w6, hr2, ho2, hu2⟩ := run_append_sl (P := Try.prog) (w5.alloc (.cells #[.int .i64 x.k.1, .int .i64 x.k.2.1, .int .i64 x.k.2.2, .int .i64 x.id, .bool true, .int .i64 t.1, .int .i64 t.2.1, .int .i64 t.2.2] 41)) w1.heap.size 26 26 41 i0_ (.agg #[.int .i64 0, .int .i64 0, .int .i64 0, .int .i64 0, .bool false, .int .i64 0, .int .i64 0, .int .i64 0]) 8 64 Try.underlying26 hj hz0 hz1 hz2 rfl (by decide) v k (fl e8 (setE (E.take k) id t)) (own_alloc HV5.out _) (some ⟨w5.heap.size, 0, none⟩) 1 1 (e8 (se x id t)) (by rw [HSE.out]; exact Sl.newc w5 #[.int .i64 x.k.1, .int .i64 x.k.2.1, .int .i64 x.k.2.2, .int .i64 x.id, .bool true, .int .i64 t.1, .int .i64 t.2.1, .int .i64 t.2.2] _ 1 (by decide)) rfl (by have := e8_one [se x id t]; rwa [fl_one] at this) (by unfold maxLen; omega) (by omega) (by have := HW5.out; simp; omega)
          obtain ⟨A2, cp2, rfl, _, _⟩ := Sl.of_own ho2
          have HO6 : Hid (w6.ownsRow w1.heap.size 41 8 (.slice A2 (k + 1) cp2) (k + 1) (fl e8 (setE (E.take (k + 1)) id t))) := Lib.hid (by rw [HTK.out, fl_snoc]; exact ho2)
          have hown : ∀ b, b < w1.heap.size → ¬ v.ownBlock = some b := fun b hb => own_ne HV5.out hb
          have hX6 := (HX5.out.alloc (.cells #[.int .i64 x.k.1, .int .i64 x.k.2.1, .int .i64 x.k.2.2, .int .i64 x.id, .bool true, .int .i64 t.1, .int .i64 t.2.1, .int .i64 t.2.2] 41)).upd hu2 (hown _ (by have := HB1.out; omega))
          have hT6 := (HT5.out.alloc (.cells #[.int .i64 x.k.1, .int .i64 x.k.2.1, .int .i64 x.k.2.2, .int .i64 x.id, .bool true, .int .i64 t.1, .int .i64 t.2.1, .int .i64 t.2.2] 41)).upd hu2 (hown _ (by have := HB1.out; omega))
          have hR6 := (HR5.out.alloc (.cells #[.int .i64 x.k.1, .int .i64 x.k.2.1, .int .i64 x.k.2.2, .int .i64 x.id, .bool true, .int .i64 t.1, .int .i64 t.2.1, .int .i64 t.2.2] 41)).upd hu2 (hown _ (by have := HB1.out; omega))
          have hO6 := (HO5.out.alloc (.cells #[.int .i64 x.k.1, .int .i64 x.k.2.1, .int .i64 x.k.2.2, .int .i64 x.id, .bool true, .int .i64 t.1, .int .i64 t.2.1, .int .i64 t.2.2] 41)).upd hu2 (hown _ HB1.out)
          have HU6 : Hid (Upd (fun _ => False) w w6) := Lib.hid ((HU5.out.alloc _).trans hu2 (fun i hi => .inr (Nat.le_trans HU1.out.size (own_ge HV5.out hi))))
          have o0_ : w5.cell? ⟨(w.heap.size + 1 + 1 + 1), 0, none⟩ = some v := HO5.out.cell 0
          have ol := HO5.out.lt
          have e0_ : w5.cell? ⟨wr.heap.size, 0, none⟩ = some (.int .i64 x.k.1) := HE5.out.cell 0
          have e1_ : w5.cell? ⟨wr.heap.size, 1, none⟩ = some (.int .i64 x.k.2.1) := HE5.out.cell 1
          have e2_ : w5.cell? ⟨wr.heap.size, 2, none⟩ = some (.int .i64 x.k.2.2) := HE5.out.cell 2
          have e3_ : w5.cell? ⟨wr.heap.size, 3, none⟩ = some (.int .i64 x.id) := HE5.out.cell 3
          have e4_ : w5.cell? ⟨wr.heap.size, 4, none⟩ = some (.bool true) := HE5.out.cell 4
          have e5_ : w5.cell? ⟨wr.heap.size, 5, none⟩ = some (.int .i64 t.1) := HE5.out.cell 5
          have e6_ : w5.cell? ⟨wr.heap.size, 6, none⟩ = some (.int .i64 t.2.1) := HE5.out.cell 6
          have e7_ : w5.cell? ⟨wr.heap.size, 7, none⟩ = some (.int .i64 t.2.2) := HE5.out.cell 7
          have el := HE5.out.lt
          have o6_ : w6.cell? ⟨(w.heap.size + 1 + 1 + 1), 0, none⟩ = some v := hO6.cell 0
          have ol6 := hO6.lt
          have of6 : ∀ i, w6.frozen? ⟨(w.heap.size + 1 + 1 + 1), i, none⟩ = false := fun i => hO6.frz i
          have HX6 := Lib.hid hX6
          have HT6 := Lib.hid hT6
          have HR6 := Lib.hid hR6
          have HO6b := Lib.hid hO6
          have HW6 : Hid (w1.heap.size ≤ w6.heap.size) := Lib.hid (by have := hu2.size; have := HW5.out; simp at *; omega)
          clear ho2 hu2 hown hX6 hT6 hR6 hO6
          go_wp2_with (at_builtin; refine wpList_append_run _ rfl _ _ _ rfl rfl rfl hr2 ?_)
          go_roundw
          case rel => exact ⟨k + 1, _, by omega, by go_num, Lib.hid (own_far (p := ⟨(w.heap.size + 1 + 1 + 1), 0, none⟩) HO6.out (own_ne HO6.out HB1.out) _), Lib.hid (HX6.out.far (p := ⟨(w.heap.size + 1 + 1 + 1), 0, none⟩) (show w.heap.size ≠ (w.heap.size + 1 + 1 + 1) by omega) _), Lib.hid (HT6.out.far (p := ⟨(w.heap.size + 1 + 1 + 1), 0, none⟩) (show (w.heap.size + 1) ≠ (w.heap.size + 1 + 1 + 1) by omega) _), Lib.hid (HR6.out.far (p := ⟨(w.heap.size + 1 + 1 + 1), 0, none⟩) (show (w.heap.size + 1 + 1) ≠ (w.heap.size + 1 + 1 + 1) by omega) _), Lib.hid (HO6b.out.set 0 _), Lib.hid (by have := HW6.out; simpa [World.setCell] using this), Lib.hid (HU6.out.set (p := ⟨(w.heap.size + 1 + 1 + 1), 0, none⟩) (.inr (show w.heap.size ≤ (w.heap.size + 1 + 1 + 1) by omega)) _)⟩
          case measure => simp [intOf]; omega
        · have hne : (x.id == id) = false := by simp [hs]
          have HSE : Hid (e8 (se x id t) = [.int .i64 x.k.1, .int .i64 x.k.2.1, .int .i64 x.k.2.2, .int .i64 x.id, .bool x.t.isSome, .int .i64 (tv x.t).1, .int .i64 (tv x.t).2.1, .int .i64 (tv x.t).2.2]) := Lib.hid (by unfold se; rw [if_neg hs]; rfl)
          clear hs
          go_upto_region 9 with fail
          refine Code.gen (fun W => Upd (fun _ => False) wr W ∧ Blk W wr.heap.size 41 #[.int .i64 x.k.1, .int .i64 x.k.2.1, .int .i64 x.k.2.2, .int .i64 x.id, .bool x.t.isSome, .int .i64 (tv x.t).1, .int .i64 (tv x.t).2.1, .int .i64 (tv x.t).2.2]) ⟨by repeat (first | exact Upd.refl _ _ | refine Upd.alloc ?_ _), Blk.new wr _ _⟩ (fun w5 hW => ?_)
          clear x0_ xl z0_ z1_ z2_ zl
          clear g0 g1 g2 g3 g4 g5 g6 g7
          obtain ⟨hu5, hb5⟩ := hW
          have HU5 : Hid (Upd (fun _ => False) w w5) := Lib.hid (HU.out.trans hu5 (fun _ h => h.elim))
          have HE5 := Lib.hid hb5
          have HV5 := Lib.hid (own_upd0 HV.out hu5)
          have HX5 := Lib.hid (HX.out.upd hu5 (fun h => h))
          have HT5 := Lib.hid (HT.out.upd hu5 (fun h => h))
          have HR5 := Lib.hid (HR.out.upd hu5 (fun h => h))
          have HO5 := Lib.hid (HO.out.upd hu5 (fun h => h))
          have HW5 : Hid (w1.heap.size ≤ w5.heap.size) := Lib.hid (Nat.le_trans HW.out hu5.size)
          clear hu5 hb5
          obtain ⟨v2, w6, hr2, ho2, hu2⟩ := run_append_sl (P := Try.prog) (w5.alloc (.cells #[.int .i64 x.k.1, .int .i64 x.k.2.1, .int .i64 x.k.2.2, .int .i64 x.id, .bool x.t.isSome, .int .i64 (tv x.t).1, .int .i64 (tv x.t).2.1, .int .i64 (tv x.t).2.2] 41)) w1.heap.size 26 26 41 i0_ (.agg #[.int .i64 0, .int .i64 0, .int .i64 0, .int .i64 0, .bool false, .int .i64 0, .int .i64 0, .int .i64 0]) 8 64 Try.underlying26 hj hz0 hz1 hz2 rfl (by decide) v k (fl e8 (setE (E.take k) id t)) (own_alloc HV5.out _) (some ⟨w5.heap.size, 0, none⟩) 1 1 (e8 (se x id t)) (by rw [HSE.out]; exact Sl.newc w5 #[.int .i64 x.k.1, .int .i64 x.k.2.1, .int .i64 x.k.2.2, .int .i64 x.id, .bool x.t.isSome, .int .i64 (tv x.t).1, .int .i64 (tv x.t).2.1, .int .i64 (tv x.t).2.2] _ 1 (by decide)) rfl (by have := e8_one [se x id t]; rwa [fl_one] at this) (by unfold maxLen; omega) (by omega) (by have := HW5.out; simp; omega)
          obtain ⟨A2, cp2, rfl, _, _⟩ := Sl.of_own ho2
          have HO6 : Hid (w6.ownsRow w1.heap.size 41 8 (.slice A2 (k + 1) cp2) (k + 1) (fl e8 (setE (E.take (k + 1)) id t))) := Lib.hid (by rw [HTK.out, fl_snoc]; exact ho2)
          have hown : ∀ b, b < w1.heap.size → ¬ v.ownBlock = some b := fun b hb => own_ne HV5.out hb
          have hX6 := (HX5.out.alloc (.cells #[.int .i64 x.k.1, .int .i64 x.k.2.1, .int .i64 x.k.2.2, .int .i64 x.id, .bool x.t.isSome, .int .i64 (tv x.t).1, .int .i64 (tv x.t).2.1, .int .i64 (tv x.t).2.2] 41)).upd hu2 (hown _ (by have := HB1.out; omega))
          have hT6 := (HT5.out.alloc (.cells #[.int .i64 x.k.1, .int .i64 x.k.2.1, .int .i64 x.k.2.2, .int .i64 x.id, .bool x.t.isSome, .int .i64 (tv x.t).1, .int .i64 (tv x.t).2.1, .int .i64 (tv x.t).2.2] 41)).upd hu2 (hown _ (by have := HB1.out; omega))
          have hR6 := (HR5.out.alloc (.cells #[.int .i64 x.k.1, .int .i64 x.k.2.1, .int .i64 x.k.2.2, .int .i64 x.id, .bool x.t.isSome, .int .i64 (tv x.t).1, .int .i64 (tv x.t).2.1, .int .i64 (tv x.t).2.2] 41)).upd hu2 (hown _ (by have := HB1.out; omega))
          have hO6 := (HO5.out.alloc (.cells #[.int .i64 x.k.1, .int .i64 x.k.2.1, .int .i64 x.k.2.2, .int .i64 x.id, .bool x.t.isSome, .int .i64 (tv x.t).1, .int .i64 (tv x.t).2.1, .int .i64 (tv x.t).2.2] 41)).upd hu2 (hown _ HB1.out)
          have HU6 : Hid (Upd (fun _ => False) w w6) := Lib.hid ((HU5.out.alloc _).trans hu2 (fun i hi => .inr (Nat.le_trans HU1.out.size (own_ge HV5.out hi))))
          have o0_ : w5.cell? ⟨(w.heap.size + 1 + 1 + 1), 0, none⟩ = some v := HO5.out.cell 0
          have ol := HO5.out.lt
          have e0_ : w5.cell? ⟨wr.heap.size, 0, none⟩ = some (.int .i64 x.k.1) := HE5.out.cell 0
          have e1_ : w5.cell? ⟨wr.heap.size, 1, none⟩ = some (.int .i64 x.k.2.1) := HE5.out.cell 1
          have e2_ : w5.cell? ⟨wr.heap.size, 2, none⟩ = some (.int .i64 x.k.2.2) := HE5.out.cell 2
          have e3_ : w5.cell? ⟨wr.heap.size, 3, none⟩ = some (.int .i64 x.id) := HE5.out.cell 3
          have e4_ : w5.cell? ⟨wr.heap.size, 4, none⟩ = some (.bool x.t.isSome) := HE5.out.cell 4
          have e5_ : w5.cell? ⟨wr.heap.size, 5, none⟩ = some (.int .i64 (tv x.t).1) := HE5.out.cell 5
          have e6_ : w5.cell? ⟨wr.heap.size, 6, none⟩ = some (.int .i64 (tv x.t).2.1) := HE5.out.cell 6
          have e7_ : w5.cell? ⟨wr.heap.size, 7, none⟩ = some (.int .i64 (tv x.t).2.2) := HE5.out.cell 7
          have el := HE5.out.lt
          have o6_ : w6.cell? ⟨(w.heap.size + 1 + 1 + 1), 0, none⟩ = some v := hO6.cell 0
          have ol6 := hO6.lt
          have of6 : ∀ i, w6.frozen? ⟨(w.heap.size + 1 + 1 + 1), i, none⟩ = false := fun i => hO6.frz i
          have HX6 := Lib.hid hX6
          have HT6 := Lib.hid hT6
          have HR6 := Lib.hid hR6
          have HO6b := Lib.hid hO6
          have HW6 : Hid (w1.heap.size ≤ w6.heap.size) := Lib.hid (by have := hu2.size; have := HW5.out; simp at *; omega)
          clear ho2 hu2 hown hX6 hT6 hR6 hO6
          go_wp2_with (at_builtin; refine wpList_append_run _ rfl _ _ _ rfl rfl rfl hr2 ?_)
          go_roundw
          case rel => exact ⟨k + 1, _, by omega, by go_num, Lib.hid (own_far (p := ⟨(w.heap.size + 1 + 1 + 1), 0, none⟩) HO6.out (own_ne HO6.out HB1.out) _), Lib.hid (HX6.out.far (p := ⟨(w.heap.size + 1 + 1 + 1), 0, none⟩) (show w.heap.size ≠ (w.heap.size + 1 + 1 + 1) by omega) _), Lib.hid (HT6.out.far (p := ⟨(w.heap.size + 1 + 1 + 1), 0, none⟩) (show (w.heap.size + 1) ≠ (w.heap.size + 1 + 1 + 1) by omega) _), Lib.hid (HR6.out.far (p := ⟨(w.heap.size + 1 + 1 + 1), 0, none⟩) (show (w.heap.size + 1 + 1) ≠ (w.heap.size + 1 + 1 + 1) by omega) _), Lib.hid (HO6b.out.set 0 _), Lib.hid (by have := HW6.out; simpa [World.setCell] using this), Lib.hid (HU6.out.set (p := ⟨(w.heap.size + 1 + 1 + 1), 0, none⟩) (.inr (show w.heap.size ≤ (w.heap.size + 1 + 1 + 1) by omega)) _)⟩
          case measure => simp [intOf]; omega
      · obtain rfl : k = n := by omega
        have hO := HV.out
        rw [List.take_of_length_le (by rw [HL.out]; exact Nat.le_refl _)] at hO
        obtain ⟨A3, c3, rfl, hs3, hge⟩ := Sl.of_own hO
        have HO3 := Lib.hid hO
        clear hO hs3 hge
        go_wp2_with fail
        go_meet
        case rel => exact ⟨A3, c3, HO3, HX, HR, HO, HW, HU⟩
  case rest =>
    obtain ⟨A3, c3, HV, HX, HR, HO, HW, HU⟩ := hcut
    go_wp2_with fail
    go_loopw [11, 12] (fun lv iv wr => ∃ (k : Nat) (v : Value), k ≤ m ∧ iv = .int .i64 k ∧ Hid (wr.ownsRow w1.heap.size 3 1 lv (setL (J.take k) id).length (nums (setL (J.take k) id))) ∧ Hid (wr.ownsRow w1.heap.size 75 2 v (setJ (J.take k) id).length (prs (setJ (J.take k) id))) ∧ Hid (wr.ownsRow w1.heap.size 41 8 (.slice A3 n c3) n (fl e8 (setE E id t))) ∧ Hid (Blk wr w.heap.size 29 #[.slice A n c, .slice B m d]) ∧ Hid (Blk wr (w.heap.size + 1 + 1) 29 #[.slice none 0 0, .slice none 0 0]) ∧ Hid (Blk wr (w.heap.size + 1 + 1 + 1) 29 #[.slice A3 n c3, v]) ∧ Hid (w1.heap.size ≤ wr.heap.size) ∧ Hid (Upd (fun _ => False) w wr)) (fun lv iv _ => m - (intOf iv).toNat)
    case atStart => exact ⟨0, _, Nat.zero_le _, rfl, Lib.hid (by simpa [setL, nums] using own_nil wc w1.heap.size 3 1), Lib.hid (by simpa [setJ, prs] using own_nil wc w1.heap.size 75 2), HV, HX, HR, HO, HW, HU⟩
    case round =>
      obtain ⟨k, v, hk, rfl, HLV, HJV, HV, HX, HR, HO, HW, HU⟩ := hrel
      have i0 : (0 : Int) ≤ (k : Int) := Int.natCast_nonneg _
      have x1_ : wr.cell? ⟨w.heap.size, 1, none⟩ = some (.slice B m d) := HX.out.cell 1
      have xl := HX.out.lt
      by_cases hkn : k < m
      · obtain ⟨y, hx⟩ : ∃ y, J[k]? = some y := ⟨J[k]'(by rw [HM.out]; exact hkn), List.getElem?_eq_getElem _⟩
        have i1 : (k : Int) < (m : Int) := by omega
        obtain ⟨b, o, hA', hb, c0, c1⟩ := HB.out.sl.pr hx
        have HLT := Lib.hid hb
        have r0 := Lib.hid c0
        have r1 := Lib.hid c1
        clear hb c0 c1
        have HTJ := Lib.hid (setJ_take (id := id) hx)
        have HTL := Lib.hid (setL_take (id := id) hx)
        clear hx
        subst hA'
        have g0 : wr.cell? ⟨b, o + k * 2, none⟩ = some (.int .i64 y.1) := (HU.out.cellq (p := ⟨b, o + k * 2, none⟩) HLT.out (fun h => h)).trans r0.out
        have g1 : wr.cell? ⟨b, o + k * 2 + 1, none⟩ = some (.int .i64 y.2) := (HU.out.cellq (p := ⟨b, o + k * 2 + 1, none⟩) HLT.out (fun h => h)).trans r1.out
        have hbw : b < wr.heap.size := Nat.lt_of_lt_of_le HLT.out HU.out.size
        have HKL : Hid ((setL (J.take k) id).length ≤ 1000 ∧ (setJ (J.take k) id).length ≤ 1000) := Lib.hid (by have h1 := setL_len (J.take k) id; have h2 := setJ_len (J.take k) id; rw [List.length_take] at h1 h2; omega)
        by_cases hs : y.1 = id
        · have hne : (y.1 == id) = true := by simp [hs]
          obtain ⟨v2, w6, hr2, ho2, hu2⟩ := run_append_sl (P := Try.prog) (wr.alloc (.cells #[.int .i64 y.2] 3)) w1.heap.size 49 49 3 q0_ (.int .i64 0) 1 8 Try.underlying49 qj qz0 qz1 qz2 rfl (by decide) u11 (setL (J.take k) id).length (nums (setL (J.take k) id)) (own_alloc HLV.out _) (some ⟨wr.heap.size, 0, none⟩) 1 1 (nums [y.2]) (Sl.newc wr #[.int .i64 y.2] _ 1 (by decide)) rfl (nums_one _) (by have := HKL.out; unfold maxLen; omega) (by have := HKL.out; omega) (by have := HW.out; simp; omega)
          have HL6 : Hid (w6.ownsRow w1.heap.size 3 1 v2 (setL (J.take (k + 1)) id).length (nums (setL (J.take (k + 1)) id))) := Lib.hid (by rw [HTL.out, if_pos hs, nums_app, List.length_append]; exact ho2)
          have hown : ∀ b, b < w1.heap.size → ¬ u11.ownBlock = some b := fun b hb => own_ne HLV.out hb
          have HX6 := Lib.hid ((HX.out.alloc (.cells #[.int .i64 y.2] 3)).upd hu2 (hown _ (by have := HB1.out; omega)))
          have HR6 := Lib.hid ((HR.out.alloc (.cells #[.int .i64 y.2] 3)).upd hu2 (hown _ (by have := HB1.out; omega)))
          have HO6 := Lib.hid ((HO.out.alloc (.cells #[.int .i64 y.2] 3)).upd hu2 (hown _ HB1.out))
          have HJ6 : Hid (w6.ownsRow w1.heap.size 75 2 v (setJ (J.take (k + 1)) id).length (prs (setJ (J.take (k + 1)) id))) := Lib.hid (by rw [HTJ.out, if_pos hs]; exact own_upd (own_alloc HJV.out _) hu2 (own_apart HJV.out HLV.out (by decide)))
          have HV6 := Lib.hid (own_upd (own_alloc HV.out (.cells #[.int .i64 y.2] 3)) hu2 (own_apart HV.out HLV.out (by decide)))
          have HU6 : Hid (Upd (fun _ => False) w w6) := Lib.hid ((HU.out.alloc _).trans hu2 (fun i hi => .inr (Nat.le_trans HU1.out.size (own_ge HLV.out hi))))
          have HW6 : Hid (w1.heap.size ≤ w6.heap.size) := Lib.hid (by have := hu2.size; have := HW.out; simp at *; omega)
          clear ho2 hu2 hown hs
          go_wp2_with (at_builtin; refine wpList_append_run _ rfl _ _ _ rfl rfl rfl hr2 ?_)
          go_roundw
          case rel => exact ⟨k + 1, v, by omega, by go_num, HL6, HJ6, HV6, HX6, HR6, HO6, HW6, HU6⟩
          case measure => simp [intOf]; omega
        · have hne : (y.1 == id) = false := by simp [hs]
          obtain ⟨v2, w6, hr2, ho2, hu2⟩ := run_append_sl (P := Try.prog) (wr.alloc (.cells #[.int .i64 y.1, .int .i64 y.2] 75)).drew w1.heap.size 27 27 75 p0_ (.agg #[.int .i64 0, .int .i64 0]) 2 16 Try.underlying27 pj pz0 pz1 pz2 rfl (by decide) v (setJ (J.take k) id).length (prs (setJ (J.take k) id)) (own_drew (own_alloc HJV.out _)) (some ⟨wr.heap.size, 0, none⟩) 1 1 (prs [y]) (Sl.newc wr #[.int .i64 y.1, .int .i64 y.2] _ 1 (by decide)).drew rfl (prs_one _) (by have := HKL.out; unfold maxLen; omega) (by have := HKL.out; omega) (by have := HW.out; simp; omega)
          obtain ⟨A2, cp2, rfl, _, _⟩ := Sl.of_own ho2
          have HJ6 : Hid (w6.ownsRow w1.heap.size 75 2 (.slice A2 ((setJ (J.take k) id).length + 1) cp2) (setJ (J.take (k + 1)) id).length (prs (setJ (J.take (k + 1)) id))) := Lib.hid (by rw [HTJ.out, if_neg hs, prs_app, List.length_append]; exact ho2)
          have hown : ∀ b, b < w1.heap.size → ¬ v.ownBlock = some b := fun b hb => own_ne HJV.out hb
          have hX6 := (HX.out.alloc (.cells #[.int .i64 y.1, .int .i64 y.2] 75)).drew.upd hu2 (hown _ (by have := HB1.out; omega))
          have hR6 := (HR.out.alloc (.cells #[.int .i64 y.1, .int .i64 y.2] 75)).drew.upd hu2 (hown _ (by have := HB1.out; omega))
          have hO6 := (HO.out.alloc (.cells #[.int .i64 y.1, .int .i64 y.2] 75)).drew.upd hu2 (hown _ HB1.out)
          have HL6 : Hid (w6.ownsRow w1.heap.size 3 1 u11 (setL (J.take (k + 1)) id).length (nums (setL (J.take (k + 1)) id))) := Lib.hid (by rw [HTL.out, if_neg hs]; exact own_upd (own_drew (own_alloc HLV.out _)) hu2 (own_apart HLV.out HJV.out (by decide)))
          have HV6 := Lib.hid (own_upd (own_drew (own_alloc HV.out (.cells #[.int .i64 y.1, .int .i64 y.2] 75))) hu2 (own_apart HV.out HJV.out (by decide)))
          have HU6 : Hid (Upd (fun _ => False) w w6) := Lib.hid ((HU.out.alloc _).drew.trans hu2 (fun i hi => .inr (Nat.le_trans HU1.out.size (own_ge HJV.out hi))))
          have HW6 : Hid (w1.heap.size ≤ w6.heap.size) := Lib.hid (by have := hu2.size; have := HW.out; simp at *; omega)
          have o1_ : wr.cell? ⟨(w.heap.size + 1 + 1 + 1), 1, none⟩ = some v := HO.out.cell 1
          have ol := HO.out.lt
          have o6_ : w6.cell? ⟨(w.heap.size + 1 + 1 + 1), 1, none⟩ = some v := hO6.cell 1
          have x6_ : w6.cell? ⟨w.heap.size, 1, none⟩ = some (.slice (some ⟨b, o, none⟩) m d) := hX6.cell 1
          have ol6 := hO6.lt
          have xl6 := hX6.lt
          have of6 : ∀ i, w6.frozen? ⟨(w.heap.size + 1 + 1 + 1), i, none⟩ = false := fun i => hO6.frz i
          have HX6 := Lib.hid hX6
          have HR6 := Lib.hid hR6
          have HO6b := Lib.hid hO6
          have h0 : w6.cell? ⟨b, o + k * 2, none⟩ = some (.int .i64 y.1) := (HU6.out.cellq (p := ⟨b, o + k * 2, none⟩) HLT.out (fun h => h)).trans r0.out
          have h1 : w6.cell? ⟨b, o + k * 2 + 1, none⟩ = some (.int .i64 y.2) := (HU6.out.cellq (p := ⟨b, o + k * 2 + 1, none⟩) HLT.out (fun h => h)).trans r1.out
          have hbw6 : b < w6.heap.size := Nat.lt_of_lt_of_le HLT.out HU6.out.size
          clear ho2 hu2 hown hX6 hR6 hO6 hs
          go_wp2_with fail
          go_region_law (refine step_append_run rfl _ _ _ rfl rfl rfl hr2 ?_)
          all_goals
            clear x1_ xl o1_ ol o6_ x6_ xl6 hr2
            clear g0 g1
            clear h0 h1
            go_wp2
            go_roundw
            case rel => exact ⟨k + 1, _, by omega, by go_num, Lib.hid (own_far (p := ⟨(w.heap.size + 1 + 1 + 1), 1, none⟩) HL6.out (own_ne HL6.out HB1.out) _), Lib.hid (own_far (p := ⟨(w.heap.size + 1 + 1 + 1), 1, none⟩) HJ6.out (own_ne HJ6.out HB1.out) _), Lib.hid (own_far (p := ⟨(w.heap.size + 1 + 1 + 1), 1, none⟩) HV6.out (own_ne HV6.out HB1.out) _), Lib.hid (HX6.out.far (p := ⟨(w.heap.size + 1 + 1 + 1), 1, none⟩) (show w.heap.size ≠ (w.heap.size + 1 + 1 + 1) by omega) _), Lib.hid (HR6.out.far (p := ⟨(w.heap.size + 1 + 1 + 1), 1, none⟩) (show (w.heap.size + 1 + 1) ≠ (w.heap.size + 1 + 1 + 1) by omega) _), Lib.hid (HO6b.out.set 1 _), Lib.hid (by have := HW6.out; simpa [World.setCell] using this), Lib.hid (HU6.out.set (p := ⟨(w.heap.size + 1 + 1 + 1), 1, none⟩) (.inr (show w.heap.size ≤ (w.heap.size + 1 + 1 + 1) by omega)) _)⟩
            case measure => simp [intOf]; omega
      · obtain rfl : k = m := by omega
        have hL := HLV.out
        have hJ := HJV.out
        rw [List.take_of_length_le (by rw [HM.out]; exact Nat.le_refl _)] at hL hJ
        obtain ⟨L3, l3, rfl, hs4, hge4⟩ := Sl.of_own hL
        obtain ⟨B3, d3, rfl, hs5, hge5⟩ := Sl.of_own hJ
        have HS3 : Hid (Sl wr A3 n c3 (fl e8 (setE E id t)) ∧ ∀ b o, A3 = some ⟨b, o, none⟩ → w1.heap.size ≤ b) := Lib.hid (by obtain ⟨A, c, e, h1, h2⟩ := Sl.of_own HV.out; injection e with e1 e2 e3; subst e1 e3; exact ⟨h1, h2⟩)
        have HS4 := Lib.hid (And.intro hs4 hge4)
        have HS5 := Lib.hid (And.intro hs5 hge5)
        have o0_ : wr.cell? ⟨(w.heap.size + 1 + 1 + 1), 0, none⟩ = some (.slice A3 n c3) := HO.out.cell 0
        have o1_ : wr.cell? ⟨(w.heap.size + 1 + 1 + 1), 1, none⟩ = some (.slice B3 (setJ J id).length d3) := HO.out.cell 1
        have ol := HO.out.lt
        have r0_ : wr.cell? ⟨(w.heap.size + 1 + 1), 0, none⟩ = some (.slice none 0 0) := HR.out.cell 0
        have r1_ : wr.cell? ⟨(w.heap.size + 1 + 1), 1, none⟩ = some (.slice none 0 0) := HR.out.cell 1
        have rl := HR.out.lt
        have rf : ∀ i, wr.frozen? ⟨(w.heap.size + 1 + 1), i, none⟩ = false := fun i => HR.out.frz i
        have HFIN : Hid (∀ W, Upd (At (w.heap.size + 1 + 1)) wr W → Kp W F A3 n c3 (fl e8 (setE E id t)) ∧ Kp W F B3 (setJ J id).length d3 (prs (setJ J id)) ∧ Kp W F L3 (setL J id).length l3 (nums (setL J id)) ∧ Upd (fun _ => False) w W) := Lib.hid (fun W hu => by
          have hw : Upd (fun _ => False) w W := HU.out.trans hu (fun i hi => .inr (by rw [show i = (w.heap.size + 1 + 1) from hi]; omega))
          have h2 := HB1.out
          have h3 := HU1.out.size
          have hno : ∀ {A : Option Addr}, (∀ b o, A = some ⟨b, o, none⟩ → w1.heap.size ≤ b) → ∀ b o, A = some ⟨b, o, none⟩ → ¬ At (w.heap.size + 1 + 1) b := fun h b o e hb => by
            have h1 := h b o e
            have hb : b = (w.heap.size + 1 + 1) := hb
            omega
          have hnf : ∀ {A : Option Addr}, (∀ b o, A = some ⟨b, o, none⟩ → w1.heap.size ≤ b) → ∀ b o, A = some ⟨b, o, none⟩ → ¬ F b := fun h b o e hf => by
            have h1 := h b o e
            have h4 := HF.out b hf
            omega
          exact ⟨Kp.of_new (HS3.out.1.upd hu (hno HS3.out.2)) (hnf HS3.out.2), Kp.of_new (HS5.out.1.upd hu (hno HS5.out.2)) (hnf HS5.out.2), Kp.of_new (HS4.out.1.upd hu (hno HS4.out.2)) (hnf HS4.out.2), hw⟩)
        clear hL hJ hs4 hge4 hs5 hge5
        go_wp2
        refine bodyPost_ret (v := .tuple #[.agg #[.slice A3 n c3, .slice B3 (setJ J id).length d3], .slice L3 (setL J id).length l3]) (by simp [results, Try.results21, go_sem, r0_, r1_, rl]) rfl ⟨A3, c3, B3, d3, L3, l3, rfl, HFIN.out _ (by repeat (first | exact Upd.refl _ _ | refine Upd.alloc ?_ _ | refine Upd.drew ?_ | refine Upd.drewN ?_ _ | refine Upd.put ?_ _ _))⟩
end
end Go.Proofs.Ytninaaolbgchpaa
