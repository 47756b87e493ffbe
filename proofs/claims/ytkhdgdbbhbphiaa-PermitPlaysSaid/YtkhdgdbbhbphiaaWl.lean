/- PermitPlays. -/
import Derived.Test.YtkhdgdbbhbphiaaPs
import Derived.Test.YtkhdgdbbhbphiaaWo
namespace Go.Proofs.Ytkhdgdbbhbphiaa
open Go.RowKit
set_option linter.unusedVariables false
set_option linter.unusedSimpArgs false

theorem used_n {g b N n : Nat} {most : Int} {hs : List H2} (hn : hs.length = n) (w : World) (hp : PS w g b most N hs) : Calls Try.prog 18 #[.pointer (some ⟨g, 0, none⟩)] w fun e w' => e = .returned (.int .i64 (n : Int)) ∧ Upd (fun _ => False) w w' := by
  have := used_to w hp
  rwa [hn] at this
theorem room_n {g b N n : Nat} {most : Int} {hs : List H2} {q : Bool} (hn : hs.length = n) (hq : decide ((n : Int) < most) = q) (w : World) (hp : PS w g b most N hs) : Calls Try.prog 19 #[.pointer (some ⟨g, 0, none⟩)] w fun e w' => e = .returned (.bool q) ∧ Upd (fun _ => False) w w' := by
  have := room_to w hp
  rw [hn, hq] at this
  exact this.mono fun _ _ ⟨he, m, hm⟩ => ⟨he, hm ▸ (Upd.refl _ _).drewN m⟩
theorem holds_b {g b N : Nat} {most : Int} {hs : List H2} {h : H2} {q : Bool} (hh : hok h) (hq : decide (h ∈ hs) = q) (w : World) (hp : PS w g b most N hs) : Calls Try.prog 11 #[.pointer (some ⟨g, 0, none⟩), hval h] w fun e w' => e = .returned (.bool q) ∧ Upd (fun _ => False) w w' := by
  have := holds_to hh w hp
  rwa [hq] at this
theorem rholds_b {A : Option Addr} {n c : Nat} {l : List H2} {h : H2} {q : Bool} (hl : l.length = n) (hn : n ≤ 1000) (hq : decide (h ∈ l) = q) (w : World) (hs : Sl w A n c (prs l)) : Calls Try.prog 20 #[.slice A n c, hval h] w fun e w' => e = .returned (.bool q) ∧ Upd (fun _ => False) w w' := by
  have := rholds_to hl hn (h := h) w hs
  rwa [hq] at this
set_option maxRecDepth 100000 in
set_option maxHeartbeats 4000000 in
theorem pplays_any (most : Int) (L : Option Addr) (len cap : Nat) (l : List P3) (hl : l.length = len) (hm : len ≤ 9223372036854775807) (hwf : Wp l) (h : H2) (hh : hok h) (w : World) (hs0 : Sl w L len cap (fl p3 l)) :
    Calls Try.prog 4 #[.int .i64 most, .slice L len cap, hval h] w fun e w' => e = .returned (.bool true) ∧ Below w.heap.size w w' := by
  have HL := Lib.hid hl
  have HS := Lib.hid hs0
  have HWF := Lib.hid hwf
  have HH := Lib.hid hh
  have U0 := Lib.hid ((Upd.refl (fun _ => False) w).alloc (.cells #[.int .i64 h.1, .int .i64 h.2] 24))
  have B0 := Lib.hid (Blk.new w #[.int .i64 h.1, .int .i64 h.2] 24)
  clear hl hs0 hwf hh
  go_enter Try.func4, Try.ntmps4
  go_wp2_with fail
  refine (awake_any _).mono ?_
  rintro e_ w1 ⟨rfl, hu⟩
  have U1 := Lib.hid (U0.out.trans hu (fun _ h => h.elim))
  have B1 := Lib.hid (B0.out.upd hu (fun h => h))
  clear hu U0 B0
  by_cases hy : most < 0 ∨ 8 < most
  · go_wp2_with fail
    refine (pnew_no hy _).mono ?_
    rintro e_ w2 ⟨rfl, hu⟩
    have U2 := Lib.hid (U1.out.trans hu (fun _ h => h.elim))
    clear hu
    by_cases hy1 : most < 0
    · clear hy
      go_wp2
      go_ret
      exact ⟨rfl, U2.out.below0⟩
    · have hy2 : 8 < most := by omega
      clear hy
      go_wp2
      go_ret
      exact ⟨rfl, U2.out.below0⟩
  · have q1 : ¬ most < 0 := fun e => hy (.inl e)
    have q2 : ¬ 8 < most := fun e => hy (.inr e)
    have HM : Hid (0 ≤ most ∧ most ≤ 8) := Lib.hid ⟨by omega, by omega⟩
    clear hy
    go_wp2_with fail
    refine (pnew_yes HM.out.1 HM.out.2 _).mono ?_
    rintro e_ w2 ⟨g, b, rfl, hp, hg, hb, hu⟩
    have P2 := Lib.hid hp
    have HBN : Hid (w1.heap.size ≤ b) := Lib.hid hb
    have HB0 : Hid (w.heap.size < w1.heap.size) := Lib.hid B1.out.lt
    have U2 := Lib.hid (U1.out.trans hu (fun _ h => h.elim))
    have B2 := Lib.hid (B1.out.upd hu (fun h => h))
    clear hp hg hb hu U1 B1
    go_wp2_with fail
    go_loopw [9, 10] (fun xv iv wr => ∃ (k : Nat) (hs x : List H2) (A : Option Addr) (n c : Nat), k ≤ len ∧ k ≤ 100 ∧ iv = .int .i64 k ∧ xv = .slice A n c ∧ Hid (PS wr g b most k hs ∧ (hs.length : Int) ≤ most) ∧ Hid (Rel hs x) ∧ Hid (x.length = n) ∧ Hid (Sl wr A n c (prs x)) ∧ Hid (Upd (fun _ => False) w wr) ∧ Hid (Blk wr w.heap.size 24 #[.int .i64 h.1, .int .i64 h.2])) (fun _ iv _ => 100 - (intOf iv).toNat)
    case atStart => exact ⟨0, [], [], none, 0, 0, Nat.zero_le _, Nat.zero_le _, rfl, rfl, Lib.hid ⟨P2.out, HM.out.1⟩, Lib.hid Rel.zero, Lib.hid rfl, Lib.hid (Sl.zero _), U2, B2⟩
    case round =>
      obtain ⟨k, hs, x, A, n, c, hk, hk2, rfl, rfl, HP, HR, HX, HSX, HU, HB⟩ := hrel
      have HN8 : Hid (n ≤ 8) := Lib.hid (by have h1 := HR.out.1.length_eq; have h2 := HP.out.2; have h3 := HM.out.2; have h4 := HX.out; omega)
      by_cases hlt1 : k < len
      · by_cases hlt2 : k < 100
        · obtain ⟨d, hd⟩ : ∃ x, l[k]? = some x := ⟨l[k]'(by rw [HL.out]; exact hlt1), List.getElem?_eq_getElem _⟩
          have HOK := Lib.hid (HWF.out d (List.mem_of_getElem? hd))
          obtain ⟨bl, of, rfl, hb, hc⟩ := (HS.out.upd0 HU.out).row p3_len (by decide) hd
          obtain ⟨kd, dh⟩ := d
          have f0 := hc 0 _ rfl
          have f1 := hc 1 _ rfl
          have f2 := hc 2 _ rfl
          simp only [← Nat.add_assoc, Nat.add_zero] at f0 f1 f2
          replace f0 : wr.cell? ⟨bl, of + k * 3, none⟩ = some (.int .i64 kd) := f0
          replace f1 : wr.cell? ⟨bl, of + k * 3 + 1, none⟩ = some (.int .i64 dh.1) := f1
          replace f2 : wr.cell? ⟨bl, of + k * 3 + 2, none⟩ = some (.int .i64 dh.2) := f2
          have i0 : (0 : Int) ≤ (k : Int) := Int.natCast_nonneg _
          have i1 : (k : Int) < (len : Int) := by omega
          have i2 : (k : Int) < 100 := by omega
          clear hc hd
          go_wp2_with fail
          refine (do_to (kd := kd) (h := dh) HOK.out (by omega) HX.out (by have := HN8.out; omega) _ HP.out.1 HSX.out).mono ?_
          rintro e_ w3 ⟨A', n', c', rfl, hl2, hs2, hp2, hu⟩
          have HD := Lib.hid (HR.out.deed most kd dh)
          rw [HD.out.1]
          obtain ⟨hs', hhs⟩ : ∃ z, pdo most hs kd dh = z := ⟨_, rfl⟩
          obtain ⟨x', hx'⟩ : ∃ z, rdo x most kd dh = z := ⟨_, rfl⟩
          have HP3 : Hid (PS w3 g b most (k + 1) hs') := Lib.hid (hhs ▸ hp2)
          have HL3 : Hid ((hs'.length : Int) ≤ most) := Lib.hid (hhs ▸ pdo_len HM.out.1 HP.out.2 kd dh)
          have HL8 : Hid (hs'.length ≤ 8) := Lib.hid (by have h1 := HL3.out; have h2 := HM.out.2; omega)
          have HR3 : Hid (Rel hs' x') := Lib.hid (hhs ▸ hx' ▸ HD.out.2)
          have HX3 : Hid (x'.length = n') := Lib.hid (hx' ▸ hl2)
          have HS3 : Hid (Sl w3 A' n' c' (prs x')) := Lib.hid (hx' ▸ hs2)
          have HHN : Hid (hs'.length = n') := Lib.hid (by rw [← HR3.out.1.length_eq]; exact HX3.out)
          have U3 := Lib.hid (HU.out.trans hu (fun i hi => .inr (by rw [show i = b from hi]; have h1 := HBN.out; have h2 := HB0.out; omega)))
          have B3 := Lib.hid (HB.out.upd hu (show ¬ At b w.heap.size by have h1 := HBN.out; have h2 := HB0.out; unfold At; omega))
          have HBX : Hid (∀ (W : World) (i : Nat) (v : Value), #[Value.int .i64 h.1, Value.int .i64 h.2][i]? = some v → Upd (fun _ => False) w3 W → W.cell? ⟨w.heap.size, i, none⟩ = some v) := Lib.hid (fun W i v hv hu => ((B3.out.upd hu (fun h => h)).cell i).trans hv)
          have hn1k : n' ≤ 1000 := by have h1 := HL8.out; have h2 := HHN.out; omega
          have HQ0 : Hid (decide (h ∈ hs') = decide (h ∈ x')) := Lib.hid (decide_eq_decide.2 HR3.out.1.mem_iff.symm)
          obtain ⟨q, hq⟩ : ∃ z, decide ((n' : Int) < most) = z := ⟨_, rfl⟩
          obtain ⟨p, hp_⟩ : ∃ z, decide (h ∈ hs') = z := ⟨_, rfl⟩
          have HQ := Lib.hid hq
          have HQ2 := Lib.hid hp_
          have HQ3 : Hid (decide (h ∈ x') = p) := Lib.hid (HQ0.out ▸ hp_)
          have z0_ : w3.cell? ⟨w.heap.size, 0, none⟩ = some (.int .i64 h.1) := B3.out.cell 0
          have z1_ : w3.cell? ⟨w.heap.size, 1, none⟩ = some (.int .i64 h.2) := B3.out.cell 1
          clear hl2 hs2 hp2 hu HP HR HX HSX HU HB f0 f1 f2 hb hhs hx' hp_ hq HD HQ0
          cases q with
          | true =>
            have q3 : (n' : Int) < most := of_decide_eq_true HQ.out
            go_wp2_with fail
            go_region_held3 (fun w' => w'.cell? ⟨w.heap.size, 0, none⟩ = some (.int .i64 h.1) ∧ w'.cell? ⟨w.heap.size, 1, none⟩ = some (.int .i64 h.2)) (go_keep) (first
              | (go_at_call 17; refine (all_to (Nat.le_trans HL8.out (by decide)) _ (HP3.out.upd0 (Upd.refl _ _).drew)).mono ?_; rintro e_ wa ⟨A4, n4, c4, l4, rfl, hpm, hri, hln, hsl, hu⟩; have V_ : Upd (fun _ => False) w3 wa := (Upd.refl (fun _ => False) w3).drew.trans hu (fun _ h => h.elim); have Vwa := Lib.hid V_; have E4 : Hid (l4 = x') := Lib.hid (rising_eq (hpm.trans HR3.out.1.symm) hri HR3.out.2); have e4 : n' = n4 := (by rw [← hln, E4.out, HX3.out]); subst e4; have S4 := Lib.hid (E4.out ▸ hsl); clear hpm hri hln hsl; have y0_ : wa.cell? ⟨w.heap.size, 0, none⟩ = some (.int .i64 h.1) := HBX.out wa 0 _ rfl V_; have y1_ : wa.cell? ⟨w.heap.size, 1, none⟩ = some (.int .i64 h.2) := HBX.out wa 1 _ rfl V_; clear hu V_)
              | (go_at_call 16; refine (real_to HX3.out hn1k _ S4.out).mono ?_; rintro e_ wb ⟨A5, c5, rfl, hsl, hu⟩; have V_ : Upd (fun _ => False) w3 wb := Vwa.out.trans hu (fun _ h => h.elim); have Vwb := Lib.hid V_; have S5 := Lib.hid hsl; clear hsl; have y0_ : wb.cell? ⟨w.heap.size, 0, none⟩ = some (.int .i64 h.1) := HBX.out wb 0 _ rfl V_; have y1_ : wb.cell? ⟨w.heap.size, 1, none⟩ = some (.int .i64 h.2) := HBX.out wb 1 _ rfl V_; clear hu V_)
              | (go_at_call 15; refine (same_to HX3.out hn1k _ S5.out (HS3.out.upd0 Vwb.out)).mono ?_; rintro e_ wc ⟨rfl, hu⟩; have V_ : Upd (fun _ => False) w3 wc := Vwb.out.trans hu (fun _ h => h.elim); have Vwc := Lib.hid V_; have y0_ : wc.cell? ⟨w.heap.size, 0, none⟩ = some (.int .i64 h.1) := HBX.out wc 0 _ rfl V_; have y1_ : wc.cell? ⟨w.heap.size, 1, none⟩ = some (.int .i64 h.2) := HBX.out wc 1 _ rfl V_; clear hu V_)
              | (go_at_call 18; refine (used_n HHN.out _ (HP3.out.upd0 Vwc.out)).mono ?_; rintro e_ wd ⟨rfl, hu⟩; have V_ : Upd (fun _ => False) w3 wd := Vwc.out.trans hu (fun _ h => h.elim); have Vwd := Lib.hid V_; have y0_ : wd.cell? ⟨w.heap.size, 0, none⟩ = some (.int .i64 h.1) := HBX.out wd 0 _ rfl V_; have y1_ : wd.cell? ⟨w.heap.size, 1, none⟩ = some (.int .i64 h.2) := HBX.out wd 1 _ rfl V_; clear hu V_)
              | (go_at_call 19; refine (room_n HHN.out HQ.out _ (HP3.out.upd0 Vwd.out)).mono ?_; rintro e_ we ⟨rfl, hu⟩; have V_ : Upd (fun _ => False) w3 we := Vwd.out.trans hu (fun _ h => h.elim); have Vwe := Lib.hid V_; have y0_ : we.cell? ⟨w.heap.size, 0, none⟩ = some (.int .i64 h.1) := HBX.out we 0 _ rfl V_; have y1_ : we.cell? ⟨w.heap.size, 1, none⟩ = some (.int .i64 h.2) := HBX.out we 1 _ rfl V_; clear hu V_)
              | (go_at_call 12; refine (made_to h _).mono ?_; rintro e_ wf ⟨rfl, hu⟩; have V_ : Upd (fun _ => False) w3 wf := Vwe.out.trans hu (fun _ h => h.elim); have Vwf := Lib.hid V_; have y0_ : wf.cell? ⟨w.heap.size, 0, none⟩ = some (.int .i64 h.1) := HBX.out wf 0 _ rfl V_; have y1_ : wf.cell? ⟨w.heap.size, 1, none⟩ = some (.int .i64 h.2) := HBX.out wf 1 _ rfl V_; clear hu V_)
              | (go_at_call 11; refine (holds_b HH.out HQ2.out _ (HP3.out.upd0 Vwf.out)).mono ?_; rintro e_ wg ⟨rfl, hu⟩; have V_ : Upd (fun _ => False) w3 wg := Vwf.out.trans hu (fun _ h => h.elim); have Vwg := Lib.hid V_; have y0_ : wg.cell? ⟨w.heap.size, 0, none⟩ = some (.int .i64 h.1) := HBX.out wg 0 _ rfl V_; have y1_ : wg.cell? ⟨w.heap.size, 1, none⟩ = some (.int .i64 h.2) := HBX.out wg 1 _ rfl V_; clear hu V_)
              | (go_at_call 20; refine (rholds_b HX3.out hn1k HQ3.out _ (HS3.out.upd0 Vwg.out)).mono ?_; rintro e_ wh ⟨rfl, hu⟩; have V_ : Upd (fun _ => False) w3 wh := Vwg.out.trans hu (fun _ h => h.elim); have Vwh := Lib.hid V_; have y0_ : wh.cell? ⟨w.heap.size, 0, none⟩ = some (.int .i64 h.1) := HBX.out wh 0 _ rfl V_; have y1_ : wh.cell? ⟨w.heap.size, 1, none⟩ = some (.int .i64 h.2) := HBX.out wh 1 _ rfl V_; clear hu V_))
            go_wp2
            go_roundw
            case rel => exact ⟨k + 1, hs', x', A', n', c', by omega, by omega, by go_num, rfl, Lib.hid ⟨HP3.out.upd0 Vwh.out, HL3.out⟩, HR3, HX3, Lib.hid (HS3.out.upd0 Vwh.out), Lib.hid (U3.out.trans Vwh.out (fun _ h => h.elim)), Lib.hid (B3.out.upd Vwh.out (fun h => h))⟩
            case measure => simp [intOf]; omega
          | false =>
            have q3 : ¬ (n' : Int) < most := of_decide_eq_false HQ.out
            go_wp2_with fail
            have q4 : decide ((n' : Int) < most) = false := HQ.out
            have q5 : ¬ (n' : Int) < most := of_decide_eq_false HQ.out
            go_region_held3 (fun w' => w'.cell? ⟨w.heap.size, 0, none⟩ = some (.int .i64 h.1) ∧ w'.cell? ⟨w.heap.size, 1, none⟩ = some (.int .i64 h.2)) (go_keep) (first
              | (go_at_call 17; refine (all_to (Nat.le_trans HL8.out (by decide)) _ (HP3.out.upd0 (Upd.refl _ _).drew)).mono ?_; rintro e_ wa ⟨A4, n4, c4, l4, rfl, hpm, hri, hln, hsl, hu⟩; have V_ : Upd (fun _ => False) w3 wa := (Upd.refl (fun _ => False) w3).drew.trans hu (fun _ h => h.elim); have Vwa := Lib.hid V_; have E4 : Hid (l4 = x') := Lib.hid (rising_eq (hpm.trans HR3.out.1.symm) hri HR3.out.2); have e4 : n' = n4 := (by rw [← hln, E4.out, HX3.out]); subst e4; have S4 := Lib.hid (E4.out ▸ hsl); clear hpm hri hln hsl; have y0_ : wa.cell? ⟨w.heap.size, 0, none⟩ = some (.int .i64 h.1) := HBX.out wa 0 _ rfl V_; have y1_ : wa.cell? ⟨w.heap.size, 1, none⟩ = some (.int .i64 h.2) := HBX.out wa 1 _ rfl V_; clear hu V_)
              | (go_at_call 16; refine (real_to HX3.out hn1k _ S4.out).mono ?_; rintro e_ wb ⟨A5, c5, rfl, hsl, hu⟩; have V_ : Upd (fun _ => False) w3 wb := Vwa.out.trans hu (fun _ h => h.elim); have Vwb := Lib.hid V_; have S5 := Lib.hid hsl; clear hsl; have y0_ : wb.cell? ⟨w.heap.size, 0, none⟩ = some (.int .i64 h.1) := HBX.out wb 0 _ rfl V_; have y1_ : wb.cell? ⟨w.heap.size, 1, none⟩ = some (.int .i64 h.2) := HBX.out wb 1 _ rfl V_; clear hu V_)
              | (go_at_call 15; refine (same_to HX3.out hn1k _ S5.out (HS3.out.upd0 Vwb.out)).mono ?_; rintro e_ wc ⟨rfl, hu⟩; have V_ : Upd (fun _ => False) w3 wc := Vwb.out.trans hu (fun _ h => h.elim); have Vwc := Lib.hid V_; have y0_ : wc.cell? ⟨w.heap.size, 0, none⟩ = some (.int .i64 h.1) := HBX.out wc 0 _ rfl V_; have y1_ : wc.cell? ⟨w.heap.size, 1, none⟩ = some (.int .i64 h.2) := HBX.out wc 1 _ rfl V_; clear hu V_)
              | (go_at_call 18; refine (used_n HHN.out _ (HP3.out.upd0 Vwc.out)).mono ?_; rintro e_ wd ⟨rfl, hu⟩; have V_ : Upd (fun _ => False) w3 wd := Vwc.out.trans hu (fun _ h => h.elim); have Vwd := Lib.hid V_; have y0_ : wd.cell? ⟨w.heap.size, 0, none⟩ = some (.int .i64 h.1) := HBX.out wd 0 _ rfl V_; have y1_ : wd.cell? ⟨w.heap.size, 1, none⟩ = some (.int .i64 h.2) := HBX.out wd 1 _ rfl V_; clear hu V_)
              | (go_at_call 19; refine (room_n HHN.out HQ.out _ (HP3.out.upd0 Vwd.out)).mono ?_; rintro e_ we ⟨rfl, hu⟩; have V_ : Upd (fun _ => False) w3 we := Vwd.out.trans hu (fun _ h => h.elim); have Vwe := Lib.hid V_; have y0_ : we.cell? ⟨w.heap.size, 0, none⟩ = some (.int .i64 h.1) := HBX.out we 0 _ rfl V_; have y1_ : we.cell? ⟨w.heap.size, 1, none⟩ = some (.int .i64 h.2) := HBX.out we 1 _ rfl V_; clear hu V_)
              | (go_at_call 12; refine (made_to h _).mono ?_; rintro e_ wf ⟨rfl, hu⟩; have V_ : Upd (fun _ => False) w3 wf := Vwe.out.trans hu (fun _ h => h.elim); have Vwf := Lib.hid V_; have y0_ : wf.cell? ⟨w.heap.size, 0, none⟩ = some (.int .i64 h.1) := HBX.out wf 0 _ rfl V_; have y1_ : wf.cell? ⟨w.heap.size, 1, none⟩ = some (.int .i64 h.2) := HBX.out wf 1 _ rfl V_; clear hu V_)
              | (go_at_call 11; refine (holds_b HH.out HQ2.out _ (HP3.out.upd0 Vwf.out)).mono ?_; rintro e_ wg ⟨rfl, hu⟩; have V_ : Upd (fun _ => False) w3 wg := Vwf.out.trans hu (fun _ h => h.elim); have Vwg := Lib.hid V_; have y0_ : wg.cell? ⟨w.heap.size, 0, none⟩ = some (.int .i64 h.1) := HBX.out wg 0 _ rfl V_; have y1_ : wg.cell? ⟨w.heap.size, 1, none⟩ = some (.int .i64 h.2) := HBX.out wg 1 _ rfl V_; clear hu V_)
              | (go_at_call 20; refine (rholds_b HX3.out hn1k HQ3.out _ (HS3.out.upd0 Vwg.out)).mono ?_; rintro e_ wh ⟨rfl, hu⟩; have V_ : Upd (fun _ => False) w3 wh := Vwg.out.trans hu (fun _ h => h.elim); have Vwh := Lib.hid V_; have y0_ : wh.cell? ⟨w.heap.size, 0, none⟩ = some (.int .i64 h.1) := HBX.out wh 0 _ rfl V_; have y1_ : wh.cell? ⟨w.heap.size, 1, none⟩ = some (.int .i64 h.2) := HBX.out wh 1 _ rfl V_; clear hu V_))
            go_wp2
            go_roundw
            case rel => exact ⟨k + 1, hs', x', A', n', c', by omega, by omega, by go_num, rfl, Lib.hid ⟨HP3.out.upd0 Vwh.out, HL3.out⟩, HR3, HX3, Lib.hid (HS3.out.upd0 Vwh.out), Lib.hid (U3.out.trans Vwh.out (fun _ h => h.elim)), Lib.hid (B3.out.upd Vwh.out (fun h => h))⟩
            case measure => simp [intOf]; omega
        · have hq : ¬ (k : Int) < 100 := by omega
          have hq1 : (k : Int) < (len : Int) := by omega
          go_wp2
          go_ret
          exact ⟨rfl, HU.out.below0⟩
      · have hq : ¬ (k : Int) < (len : Int) := by omega
        go_wp2
        go_ret
        exact ⟨rfl, HU.out.below0⟩
theorem pplays_walk {w : World} (a0 : Int) (w0 : (Lit.int .i64 a0).wf = true) (A9 : Option Addr) (len9 cap9 : Nat) (L9 : List (List Value)) (hL9 : L9.length = len9) (hlc9 : len9 ≤ cap9) (hm9 : cap9 ≤ maxLen) (hn9 : A9 = none → len9 = 0 ∧ cap9 = 0) (hok9 : ∀ row ∈ L9, Oks [.int .i64, .int .i64, .int .i64] row) (hr9 : Rows w A9 3 L9)
    (c2 : Array Value) (w2 : Oks [.int .i64, .int .i64] c2.toList) :
    Calls Try.prog 4 #[.int .i64 a0, .slice A9 len9 cap9, .agg c2] w fun e w' => e = .returned (.bool true) ∧ Below w.heap.size w w' := by
  obtain ⟨l, hl, hwf, hs⟩ := sl_rows (enc := p3) p3_len (by decide) p3_dec hL9 hlc9 hm9 hn9 hok9 hr9
  unfold maxLen at hm9
  obtain ⟨h, rfl, hh⟩ := arr2 w2
  exact pplays_any a0 A9 len9 cap9 l hl (by omega) hwf h hh w hs
end Go.Proofs.Ytkhdgdbbhbphiaa
