/- A cache behind deeds. -/
import Derived.Test.YtninaaolbgchpaaRy
namespace Go.Proofs.Ytninaaolbgchpaa
open Go.RowKit
set_option linter.unusedVariables false
set_option linter.unusedSimpArgs false

theorem take_min {α : Type} {l : List α} {k : Nat} (hk : k ≤ 100) (h : k = l.length ∨ k = 100) : l.take k = l.take 100 := by
  rcases h with h | h
  · rw [List.take_of_length_le (by omega), List.take_of_length_le (by omega)]
  · rw [h]
set_option maxHeartbeats 8000000 in
set_option maxRecDepth 100000 in
theorem ran_to (L : Option Addr) (len cap : Nat) (l : List D8) (hl : l.length = len) (hm : len ≤ 9223372036854775807) (hwf : ∀ x ∈ l, dok x) (w : World) (hs : Sl w L len cap (fl d8 l)) :
    Calls Try.prog 13 #[.slice L len cap] w fun e w' => ∃ g bk bj F, e = .returned (.pointer (some ⟨g, 0, none⟩)) ∧ CS w' w.heap.size g bk bj F (st (l.take 100)).1 (st (l.take 100)).2 100 ∧ Upd (fun _ => False) w w' := by
  have HL := Lib.hid hl
  have HWF := Lib.hid hwf
  have HS := Lib.hid hs
  clear hl hwf hs
  go_enter Try.func13, Try.ntmps13
  go_wp2_with fail
  refine (cnew_to _).mono ?_
  rintro e_ w1 ⟨g, bk, bj, rfl, hp, hu⟩
  have P1 := Lib.hid hp
  have U1 := Lib.hid hu
  clear hp hu
  go_upto_region 3 with fail
  refine Code.gen (fun W => Upd (fun _ => False) w1 W ∧ Blk W w1.heap.size 29 #[.slice none 0 0, .slice none 0 0]) ⟨(by repeat (first | exact Upd.refl _ _ | refine Upd.alloc ?_ _ | refine Upd.drew ?_ | refine Upd.drewN ?_ _ | refine Upd.put ?_ _ _)), Blk.new w1 _ _⟩ (fun w2 hW => ?_)
  obtain ⟨hu, hb⟩ := hW
  obtain ⟨x0, hx0⟩ : ∃ z, w1.heap.size = z := ⟨_, rfl⟩
  have HX0 : Hid (w.heap.size ≤ x0) := Lib.hid (hx0 ▸ U1.out.size)
  have P2 := Lib.hid (P1.out.upd0 hu)
  have U2 := Lib.hid (U1.out.trans hu (fun _ h => h.elim))
  have N2 := Lib.hid (P1.out.nb (b := x0) (by omega))
  rw [hx0] at hb
  have X2 := Lib.hid hb
  rw [hx0]
  generalize hbase : w.heap.size = base at P2
  have HBS : Hid (w.heap.size ≤ base) := Lib.hid (Nat.le_of_eq hbase)
  clear hb hu hx0 P1 U1
  go_wp2_with fail
  go_loopw [5] (fun iv wr => ∃ (k : Nat) (A B : Option Addr) (c d : Nat) (F : Nat → Prop), k ≤ len ∧ k ≤ 100 ∧ iv = .int .i64 k ∧ Hid (CS wr base g bk bj F (st (l.take k)).1 (st (l.take k)).2 k) ∧ Hid (Kp wr (fun x => F x ∨ At x0 x) A (st (l.take k)).1.length c (fl e8 (st (l.take k)).1)) ∧ Hid (Kp wr (fun x => F x ∨ At x0 x) B (st (l.take k)).2.length d (prs (st (l.take k)).2)) ∧ Hid (Blk wr x0 29 #[.slice A (st (l.take k)).1.length c, .slice B (st (l.take k)).2.length d]) ∧ Hid (Upd (fun _ => False) w wr) ∧ Hid (¬ F x0)) (fun iv _ => len - (intOf iv).toNat)
  case atStart => exact ⟨0, none, none, 0, 0, _, Nat.zero_le _, Nat.zero_le _, rfl, P2, Lib.hid (Kp.zero _ _), Lib.hid (Kp.zero _ _), X2, U2, N2⟩
  case round =>
    obtain ⟨k, A, B, c, d, F, hk, hk2, rfl, HCP, HA, HB, HX, HU, HNX⟩ := hrel
    by_cases hlt1 : k < len
    · by_cases hlt2 : k < 100
      · skip
        have HP := HCP
        obtain ⟨x, hx⟩ : ∃ x, l[k]? = some x := ⟨l[k]'(by rw [HL.out]; exact hlt1), List.getElem?_eq_getElem _⟩
        have hok := HWF.out x (List.mem_of_getElem? hx)
        have hst := st_take hx
        obtain ⟨b, o, hA', hb, hc⟩ := HS.out.row d8_len (by decide) hx
        obtain ⟨kd, id, ⟨k1, k2, k3⟩, ⟨t1, t2, t3⟩⟩ := x
        subst hA'
        have HOK : Hid (kok (k1, k2, k3) ∧ iok id) := Lib.hid hok
        have HST : Hid (st (l.take (k + 1)) = (dE (st (l.take k)).1 kd id (k1, k2, k3) (t1, t2, t3), dJ (st (l.take k)).1 (st (l.take k)).2 kd id (k1, k2, k3))) := Lib.hid hst
        have HROW : Hid (∀ W, Upd (fun _ => False) w W → ∀ j v, (d8 (kd, id, (k1, k2, k3), (t1, t2, t3)))[j]? = some v → W.cell? ⟨b, o + k * 8 + j, none⟩ = some v) := Lib.hid (fun W hu j v hv => by rw [Nat.add_assoc]; exact (hu.cellq (p := ⟨b, o + (k * 8 + j), none⟩) hb (fun h => h)).trans (hc j v hv))
        have hbr : b < wr.heap.size := Nat.lt_of_lt_of_le hb HU.out.size
        clear hx hok hst hc
        rcases hse : st (l.take k) with ⟨E, J⟩
        rw [hse] at HP HA HB HX HST
        simp only at HP HA HB HX HST
        clear hse HCP
        have HEL : Hid (E.length < 1000) := Lib.hid (by have := HP.out.len_le; omega)
        have HJL : Hid (J.length < 1000) := Lib.hid (by have := HP.out.jn; omega)
        have i0 : (0 : Int) ≤ (k : Int) := Int.natCast_nonneg _
        have i1 : (k : Int) < (len : Int) := by omega
        have i2 : (k : Int) < 100 := by omega
        go_upto_region 6 with fail
        go_cut [6] from 20 to 29 (fun yv wx => ∃ tb A3 c3 B3 d3 F3, yv = .pointer (some ⟨tb, 0, none⟩) ∧ Hid (Aft2 wr wx base g bk bj tb x0 F F3 (dE E kd id (k1, k2, k3) (t1, t2, t3)) (dJ E J kd id (k1, k2, k3)) (k + 1) A3 (dE E kd id (k1, k2, k3) (t1, t2, t3)).length c3 B3 (dJ E J kd id (k1, k2, k3)).length d3))
        case first =>
          have f0_ : wr.cell? ⟨x0, 0, none⟩ = some (.slice A E.length c) := HX.out.cell 0
          have f1_ : wr.cell? ⟨x0, 1, none⟩ = some (.slice B J.length d) := HX.out.cell 1
          have fl_ := HX.out.lt
          have g0_ : wr.cell? ⟨b, o + k * 8, none⟩ = some (.int .i64 kd) := HROW.out _ HU.out 0 _ rfl
          have g1_ : wr.cell? ⟨b, o + k * 8 + 1, none⟩ = some (.int .i64 id) := HROW.out _ HU.out 1 _ rfl
          have g2_ : wr.cell? ⟨b, o + k * 8 + 2, none⟩ = some (.int .i64 k1) := HROW.out _ HU.out 2 _ rfl
          have g3_ : wr.cell? ⟨b, o + k * 8 + 3, none⟩ = some (.int .i64 k2) := HROW.out _ HU.out 3 _ rfl
          have g4_ : wr.cell? ⟨b, o + k * 8 + 4, none⟩ = some (.int .i64 k3) := HROW.out _ HU.out 4 _ rfl
          have g5_ : wr.cell? ⟨b, o + k * 8 + 5, none⟩ = some (.int .i64 t1) := HROW.out _ HU.out 5 _ rfl
          have g6_ : wr.cell? ⟨b, o + k * 8 + 6, none⟩ = some (.int .i64 t2) := HROW.out _ HU.out 6 _ rfl
          have g7_ : wr.cell? ⟨b, o + k * 8 + 7, none⟩ = some (.int .i64 t3) := HROW.out _ HU.out 7 _ rfl
          go_region_held3 (fun w' => w'.cell? ⟨x0, 0, none⟩ = some (.slice A E.length c) ∧ w'.cell? ⟨x0, 1, none⟩ = some (.slice B J.length d) ∧ w'.cell? ⟨b, o + k * 8, none⟩ = some (.int .i64 kd) ∧ w'.cell? ⟨b, o + k * 8 + 1, none⟩ = some (.int .i64 id) ∧ w'.cell? ⟨b, o + k * 8 + 2, none⟩ = some (.int .i64 k1) ∧ w'.cell? ⟨b, o + k * 8 + 3, none⟩ = some (.int .i64 k2) ∧ w'.cell? ⟨b, o + k * 8 + 4, none⟩ = some (.int .i64 k3) ∧ w'.cell? ⟨b, o + k * 8 + 5, none⟩ = some (.int .i64 t1) ∧ w'.cell? ⟨b, o + k * 8 + 6, none⟩ = some (.int .i64 t2) ∧ w'.cell? ⟨b, o + k * 8 + 7, none⟩ = some (.int .i64 t3)) (go_keep) ((go_at_call 11; first | (refine (do_to (X := (fun x => At x0 x ∨ At wr.heap.size x)) kd id (k1, k2, k3) (t1, t2, t3) HOK.out.1 HOK.out.2 (by omega) rfl HEL.out rfl HJL.out (fun _ => rfl) ((wr.alloc (.cells #[.slice none 0 0, .slice none 0 0] 29)).drew) (HP.out.upd0 (((Upd.refl (fun _ => False) wr).alloc (.cells #[.slice none 0 0, .slice none 0 0] 29)).drew)) (fun x hx => hx.elim (fun e => by rw [show x = x0 from e]; exact Nat.lt_of_lt_of_le HX.out.lt (show Upd (fun _ => False) wr _ from (((Upd.refl (fun _ => False) wr).alloc (.cells #[.slice none 0 0, .slice none 0 0] 29)).drew)).size) (fun e => by rw [show x = wr.heap.size from e]; simp)) (HA.out.step (((Upd.refl (fun _ => False) wr).alloc (.cells #[.slice none 0 0, .slice none 0 0] 29)).drew) (fun _ h => h.elim) (fun x hx => hx.elim (fun h => .inl (.inl h)) (fun h => h.elim (fun h => .inl (.inr h)) (fun e => .inr (Nat.le_of_eq e.symm))))) (HB.out.step (((Upd.refl (fun _ => False) wr).alloc (.cells #[.slice none 0 0, .slice none 0 0] 29)).drew) (fun _ h => h.elim) (fun x hx => hx.elim (fun h => .inl (.inl h)) (fun h => h.elim (fun h => .inl (.inr h)) (fun e => .inr (Nat.le_of_eq e.symm)))))).mono ?_; rintro e_ w6 ⟨A3, c3, B3, d3, z, F3, rfl, hz, hcs, hsub, ha, hb, hu⟩; have hz := hz rfl rfl; subst hz; have HP6 := Lib.hid hcs; have HF6 := Lib.hid hsub; have HA6 := Lib.hid ha; have HB6 := Lib.hid hb; have HV6 : Hid (Upd F ((wr.alloc (.cells #[.slice none 0 0, .slice none 0 0] 29)).drew) w6) := Lib.hid hu; have U6 := Lib.hid (upd_step (HU.out.trans (((Upd.refl (fun _ => False) wr).alloc (.cells #[.slice none 0 0, .slice none 0 0] 29)).drew) (fun _ h => h.elim)) (HP.out.upd0 (((Upd.refl (fun _ => False) wr).alloc (.cells #[.slice none 0 0, .slice none 0 0] 29)).drew)) HBS.out hu); have hx6 := (HX.out.upd (((Upd.refl (fun _ => False) wr).alloc (.cells #[.slice none 0 0, .slice none 0 0] 29)).drew) (fun h => h)).upd hu HNX.out; have p0_ : w6.cell? ⟨x0, 0, none⟩ = some (.slice A E.length c) := hx6.cell 0; have p1_ : w6.cell? ⟨x0, 1, none⟩ = some (.slice B J.length d) := hx6.cell 1; have pl_ := hx6.lt; have q0_ : w6.cell? ⟨b, o + k * 8, none⟩ = some (.int .i64 kd) := HROW.out _ U6.out 0 _ rfl; have q1_ : w6.cell? ⟨b, o + k * 8 + 1, none⟩ = some (.int .i64 id) := HROW.out _ U6.out 1 _ rfl; have q2_ : w6.cell? ⟨b, o + k * 8 + 2, none⟩ = some (.int .i64 k1) := HROW.out _ U6.out 2 _ rfl; have q3_ : w6.cell? ⟨b, o + k * 8 + 3, none⟩ = some (.int .i64 k2) := HROW.out _ U6.out 3 _ rfl; have q4_ : w6.cell? ⟨b, o + k * 8 + 4, none⟩ = some (.int .i64 k3) := HROW.out _ U6.out 4 _ rfl; have q5_ : w6.cell? ⟨b, o + k * 8 + 5, none⟩ = some (.int .i64 t1) := HROW.out _ U6.out 5 _ rfl; have q6_ : w6.cell? ⟨b, o + k * 8 + 6, none⟩ = some (.int .i64 t2) := HROW.out _ U6.out 6 _ rfl; have q7_ : w6.cell? ⟨b, o + k * 8 + 7, none⟩ = some (.int .i64 t3) := HROW.out _ U6.out 7 _ rfl; have HT6 := Lib.hid ((Blk.new wr #[.slice none 0 0, .slice none 0 0] 29).drew.upd hu (HP.out.nb (Nat.le_refl _))); have z0_ : w6.cell? ⟨wr.heap.size, 0, none⟩ = some (.slice none 0 0) := HT6.out.cell 0; have z1_ : w6.cell? ⟨wr.heap.size, 1, none⟩ = some (.slice none 0 0) := HT6.out.cell 1; have zl := HT6.out.lt; have zf : ∀ i, w6.frozen? ⟨wr.heap.size, i, none⟩ = false := (fun i => HT6.out.frz i); have n1 : ¬ x0 = wr.heap.size := (by have := HX.out.lt; omega); have n2 : ¬ wr.heap.size = x0 := (by have := HX.out.lt; omega); have n3 : ¬ b = wr.heap.size := (by omega); have n4 : ¬ wr.heap.size = b := (by omega); clear hcs hsub ha hb hu hx6) | (refine (do_to (X := (At x0)) kd id (k1, k2, k3) (t1, t2, t3) HOK.out.1 HOK.out.2 (by omega) rfl HEL.out rfl HJL.out (fun _ => rfl) (wr.drew) (HP.out.upd0 ((Upd.refl (fun _ => False) wr).drew)) (fun x e => by rw [show x = x0 from e]; exact HX.out.lt) (HA.out.keep0 ((Upd.refl (fun _ => False) wr).drew)) (HB.out.keep0 ((Upd.refl (fun _ => False) wr).drew))).mono ?_; rintro e_ w6 ⟨A3, c3, B3, d3, z, F3, rfl, hz, hcs, hsub, ha, hb, hu⟩; have hz := hz rfl rfl; subst hz; have HP6 := Lib.hid hcs; have HF6 := Lib.hid hsub; have HA6 := Lib.hid ha; have HB6 := Lib.hid hb; have HV6 : Hid (Upd F (wr.drew) w6) := Lib.hid hu; have U6 := Lib.hid (upd_step (HU.out.trans ((Upd.refl (fun _ => False) wr).drew) (fun _ h => h.elim)) (HP.out.upd0 ((Upd.refl (fun _ => False) wr).drew)) HBS.out hu); have hx6 := (HX.out.upd ((Upd.refl (fun _ => False) wr).drew) (fun h => h)).upd hu HNX.out; have p0_ : w6.cell? ⟨x0, 0, none⟩ = some (.slice A E.length c) := hx6.cell 0; have p1_ : w6.cell? ⟨x0, 1, none⟩ = some (.slice B J.length d) := hx6.cell 1; have pl_ := hx6.lt; have q0_ : w6.cell? ⟨b, o + k * 8, none⟩ = some (.int .i64 kd) := HROW.out _ U6.out 0 _ rfl; have q1_ : w6.cell? ⟨b, o + k * 8 + 1, none⟩ = some (.int .i64 id) := HROW.out _ U6.out 1 _ rfl; have q2_ : w6.cell? ⟨b, o + k * 8 + 2, none⟩ = some (.int .i64 k1) := HROW.out _ U6.out 2 _ rfl; have q3_ : w6.cell? ⟨b, o + k * 8 + 3, none⟩ = some (.int .i64 k2) := HROW.out _ U6.out 3 _ rfl; have q4_ : w6.cell? ⟨b, o + k * 8 + 4, none⟩ = some (.int .i64 k3) := HROW.out _ U6.out 4 _ rfl; have q5_ : w6.cell? ⟨b, o + k * 8 + 5, none⟩ = some (.int .i64 t1) := HROW.out _ U6.out 5 _ rfl; have q6_ : w6.cell? ⟨b, o + k * 8 + 6, none⟩ = some (.int .i64 t2) := HROW.out _ U6.out 6 _ rfl; have q7_ : w6.cell? ⟨b, o + k * 8 + 7, none⟩ = some (.int .i64 t3) := HROW.out _ U6.out 7 _ rfl; clear hcs hsub ha hb hu hx6)))
          all_goals (go_wp2_with fail; go_meet)
          all_goals first
            | (case rel => exact ⟨_, _, _, _, _, _, rfl, Lib.hid (aft2_1 HP6.out HF6.out (((Upd.refl (fun _ => False) wr).alloc _).drew) (Nat.le_refl _) HV6.out HT6.out HA6.out HB6.out)⟩)
            | (case rel => exact ⟨_, _, _, _, _, _, rfl, Lib.hid (aft2_2 HP6.out HF6.out ((Upd.refl (fun _ => False) wr).drew) HV6.out HA6.out HB6.out)⟩)
        case rest =>
          obtain ⟨tb, A3, c3, B3, d3, F3, rfl, HQ⟩ := hcut
          have HXc := Lib.hid (HX.out.upd HQ.out.upd HNX.out)
          have HPUT := Lib.hid (HQ.out.put HXc.out)
          have HNX3 : Hid (¬ F3 x0) := Lib.hid (nb_step HQ.out.sub HX.out HNX.out)
          have Uc : Hid (Upd (fun _ => False) w wc) := Lib.hid (upd_step HU.out HP.out HBS.out HQ.out.upd)
          have HFN : Hid (Upd (fun _ => False) w ((wc.setCell ⟨x0, 0, none⟩ (.slice A3 (dE E kd id (k1, k2, k3) (t1, t2, t3)).length c3)).setCell ⟨x0, 1, none⟩ (.slice B3 (dJ E J kd id (k1, k2, k3)).length d3))) := Lib.hid (Uc.out.trans HPUT.out.2.1 (fun i hi => .inr (by rw [show i = x0 from hi]; exact HX0.out)))
          have y0_ : wc.cell? ⟨tb, 0, none⟩ = some (.slice A3 (dE E kd id (k1, k2, k3) (t1, t2, t3)).length c3) := HQ.out.box.cell 0
          have y1_ : wc.cell? ⟨tb, 1, none⟩ = some (.slice B3 (dJ E J kd id (k1, k2, k3)).length d3) := HQ.out.box.cell 1
          have yl_ := HQ.out.box.lt
          have v0_ : wc.cell? ⟨x0, 0, none⟩ = some (.slice A E.length c) := HXc.out.cell 0
          have v1_ : wc.cell? ⟨x0, 1, none⟩ = some (.slice B J.length d) := HXc.out.cell 1
          have vl_ := HXc.out.lt
          have vf : ∀ i, wc.frozen? ⟨x0, i, none⟩ = false := fun i => HXc.out.frz i
          go_wp2
          go_roundw
          case rel => exact ⟨k + 1, A3, B3, c3, d3, F3, by omega, by omega, by go_num, Lib.hid (by rw [HST.out]; exact HPUT.out.1), Lib.hid (by rw [HST.out]; exact HPUT.out.2.2.2.1), Lib.hid (by rw [HST.out]; exact HPUT.out.2.2.2.2), Lib.hid (by rw [HST.out]; exact HPUT.out.2.2.1), HFN, HNX3⟩
          case measure => simp [intOf]; omega
      · skip
        have hq : ¬ (k : Int) < 100 := by omega
        have hq1 : (k : Int) < (len : Int) := by omega
        have HTM : Hid (l.take k = l.take 100) := Lib.hid (take_min hk2 (by have := HL.out; omega))
        have HR : Hid (CS wr base g bk bj F (st (l.take 100)).1 (st (l.take 100)).2 100) := Lib.hid (by rw [← HTM.out]; exact HCP.out.more hk2)
        go_wp2
        go_ret
        exact ⟨g, rfl, ⟨bk, bj, F, HR.out⟩, HU.out⟩
    · skip
      have hq : ¬ (k : Int) < (len : Int) := by omega
      have HTM : Hid (l.take k = l.take 100) := Lib.hid (take_min hk2 (by have := HL.out; omega))
      have HR : Hid (CS wr base g bk bj F (st (l.take 100)).1 (st (l.take 100)).2 100) := Lib.hid (by rw [← HTM.out]; exact HCP.out.more hk2)
      go_wp2
      go_ret
      exact ⟨g, rfl, ⟨bk, bj, F, HR.out⟩, HU.out⟩
end Go.Proofs.Ytninaaolbgchpaa
