/- CollOnce. -/
import Derived.Test.YtnpecnljibeddaaAw
import Derived.Test.YtnpecnljibeddaaDd
import Derived.LoopTactic
import Derived.Test.YtnpecnljibeddaaOn
import Derived.Deep.AppendLies
import Derived.BigQuiet
import Derived.Deep.QuietTactic
import Derived.Deep.CutBlock
import Derived.Deep.CutRange
namespace Go.Proofs.Ytnpecnljibeddaa
open Go.RowKit
attribute [local go_sem ↓] Go.wp_at_zero Go.wp_at_succ
set_option linter.unusedVariables false
set_option linter.unusedSimpArgs false

/-- Nothing happened. -/
abbrev zs : Array Value := #[.bool false, .bool false, .int .u64 0, .slice none 0 0, .slice none 0 0]
theorem most_of {a : Int} (h0 : 0 ≤ a) (h1 : a ≤ 255) : ∃ N : Nat, wrap64 (1 + wrap64 (a.tmod 4)) = (N : Int) ∧ 1 ≤ N ∧ N ≤ 4 := by
  rw [Int.tmod_eq_emod_of_nonneg h0]
  refine ⟨(1 + a % 4).toNat, ?_, by omega, by omega⟩
  unfold wrap64
  omega
theorem infoF : (Try.prog.info? 3).map (fun i => (i.zero, i.size, i.bytes)) = some (some (.int .i64 0), 1, 8) := by kernel_rfl
theorem infoB : (Try.prog.info? 40).map (fun i => (i.zero, i.size, i.bytes)) = some (some (.agg #[.slice none 0 0, .slice none 0 0]), 2, 48) := by kernel_rfl
set_option maxRecDepth 100000 in
set_option maxHeartbeats 4000000 in
theorem conce_any (L : Option Addr) (len cap : Nat) (l : List D4) (hl : l.length = len) (hm : len ≤ 9223372036854775807) (hwf : Wd l) (a0 a1 : Int) (h0 : 0 ≤ a0) (h1 : a0 ≤ 255) (h2 : 0 ≤ a1) (h3 : a1 ≤ 255) (w : World) (hs : Sl w L len cap (fl d4 l)) :
    Calls Try.prog 4 #[.agg #[.int .u8 a0, .int .u8 a1], .slice L len cap] w fun e w' => e = .returned (.bool true) ∧ Below w.heap.size w w' := by
  have HL := Lib.hid hl
  have HS := Lib.hid hs
  have HWF := Lib.hid hwf
  clear hl hs hwf
  have HMO := Lib.hid (most_of h2 h3)
  obtain ⟨k0, kj, kz0, kz1, kz2⟩ := info_parts infoF
  obtain ⟨bi, bj, bz0, bz1, bz2⟩ := info_parts infoB
  go_enter Try.func4, Try.ntmps4
  go_wp2_with fail
  refine (awake_any _).mono ?_
  rintro e_ w0 ⟨rfl, hd⟩
  have hu0 : Upd (fun _ => False) w w0 := ((Upd.refl (fun _ => False) w).alloc (.cells #[.int .u8 a0, .int .u8 a1] 55)).trans (Upd.of_below hd (fun _ => False)) (fun _ h => h.elim)
  have hb0 := ((Blk.new w #[.int .u8 a0, .int .u8 a1] 55).upd (Upd.of_below hd (fun _ => False)) (fun h => h))
  have x0_ : w0.cell? ⟨w.heap.size, 0, none⟩ = some (.int .u8 a0) := hb0.cell 0
  have x1_ : w0.cell? ⟨w.heap.size, 1, none⟩ = some (.int .u8 a1) := hb0.cell 1
  have HU0 := Lib.hid hu0
  clear hd hu0 hb0
  go_wp2_with fail
  obtain ⟨N, hN, hN1, hN4⟩ := HMO.out
  rw [show 1 + a1 % 4 = (N : Int) by rw [← hN, Int.tmod_eq_emod_of_nonneg h2]; unfold wrap64; omega]
  generalize a1 % 4 = a4_
  generalize hwin : 1 + a0 = win
  have HW : Hid (W64 win) := Lib.hid ⟨by omega, by omega⟩
  have n1 : (1 : Int) ≤ (N : Int) := by omega
  have n4 : (N : Int) ≤ 4 := by omega
  have HN1 := Lib.hid hN1
  have HN4 := Lib.hid hN4
  refine (new_yes (win := win) (most := (N : Int)) ⟨by omega, by omega, n1, n4⟩ _).mono ?_
  rintro e_ w1 ⟨g, rfl, hi, hg, hd⟩
  have CW1 := Lib.hid (CW.start hi HU0.out hg hd)
  clear hi hg hd HU0 HMO hN hN1 hN4 hwin h0 h1 h2 h3 x0_ x1_ n1 n4
  go_upto_block 0 with fail
  go_cut [8, 9, 12] from 35 to 103 (fun cv tv _ wx => ∃ (F : Nat → Prop) (p : Option Nat) (s : CSt) (Vc : Option Addr) (k cc : Nat) (Vt : Option Addr) (a ct : Nat) (ts : List TE) (came : List Int) (due : Int), cv = .slice Vc k cc ∧ tv = .slice Vt a ct ∧ Hid (k ≤ 100) ∧ Hid (came.length = k ∧ ts.length = a) ∧ Hid (OSt w wx F g p win N s due Vc k cc Vt a ct ts came k (2 * k)))
  case first =>
    go_wp2_with fail
    go_loopw [8, 9, 10, 11, 12] (fun cv tv nv dv iv wr => ∃ (F : Nat → Prop) (p : Option Nat) (s : CSt) (Vc : Option Addr) (k cc : Nat) (Vt : Option Addr) (a ct : Nat) (ts : List TE) (came : List Int) (now due : Int), k ≤ len ∧ k ≤ 100 ∧ cv = .slice Vc k cc ∧ tv = .slice Vt a ct ∧ nv = .int .u64 now ∧ dv = .int .u64 due ∧ iv = .int .i64 k ∧ Hid (0 ≤ now ∧ now ≤ 50 * k) ∧ Hid (came.length = k ∧ ts.length = a) ∧ Hid (OSt w wr F g p win N s due Vc k cc Vt a ct ts came k (2 * k))) (fun _ _ _ _ iv _ => 100 - (intOf iv).toNat)
    case atStart => exact ⟨_, none, none, none, 0, 0, none, 0, 0, [], [], 0, 0, Nat.zero_le _, Nat.zero_le _, rfl, rfl, rfl, rfl, rfl, Lib.hid ⟨by omega, by omega⟩, Lib.hid ⟨rfl, rfl⟩, Lib.hid ⟨CW1.out, OI.zero N, own_nil _ _ _ _, (fun b_ h => by simp [Value.ownBlock] at h), own_nil _ _ _ _, (fun b_ h => by simp [Value.ownBlock] at h), Told.nil _ _⟩⟩
    case round =>
      obtain ⟨F, p, s, Vc, k, cc, Vt, a, ct, ts, came, now, due, hk, hk2, rfl, rfl, rfl, rfl, rfl, HNW, HCL, HST⟩ := hrel
      have CWr := Lib.hid HST.out.cw
      by_cases hlt1 : k < len
      · by_cases hlt2 : k < 100
        · skip
          obtain ⟨x, hx⟩ : ∃ x, l[k]? = some x := ⟨l[k]'(by rw [HL.out]; exact hlt1), List.getElem?_eq_getElem _⟩
          have hxw := HWF.out x (List.mem_of_getElem? hx)
          have HXW : Hid (W64 x.2.2.2) := Lib.hid hxw
          have HX := Lib.hid hx
          obtain ⟨b, of, e, hb, hc⟩ := (CWr.out.old HS.out).sl.row d4_len (by decide) hx
          obtain ⟨b0, of0, e0, hb0, hc0⟩ := HS.out.row d4_len (by decide) hx
          rw [e] at e0
          injection e0 with e0
          injection e0 with e1 e2
          subst e1 e2 e
          have f0 := hc 0 _ rfl
          have f1 := hc 1 _ rfl
          have f2 := hc 2 _ rfl
          have f3 := hc 3 _ rfl
          simp only [← Nat.add_assoc, Nat.add_zero] at f0 f1 f2 f3
          have HB0 : Hid (∀ W, Upd (fun _ => False) w W → (∀ j v, (d4 x)[j]? = some v → W.cell? ⟨b, of + (k * 4 + j), none⟩ = some v)) := Lib.hid (fun W hu j v hv => (hu.cellq (p := ⟨b, of + (k * 4 + j), none⟩) hb0 (fun h => h)).trans (hc0 j v hv))
          obtain ⟨kd, id, arg, t⟩ := x
          simp only at HXW
          replace f0 : wr.cell? ⟨b, of + k * 4, none⟩ = some (.int .i64 kd) := f0
          replace f1 : wr.cell? ⟨b, of + k * 4 + 1, none⟩ = some (.int .i64 id) := f1
          replace f2 : wr.cell? ⟨b, of + k * 4 + 2, none⟩ = some (.int .i64 arg) := f2
          replace f3 : wr.cell? ⟨b, of + k * 4 + 3, none⟩ = some (.int .u64 t) := f3
          have i0 : (0 : Int) ≤ (k : Int) := Int.natCast_nonneg _
          have i1 : (k : Int) < (len : Int) := by omega
          have i2 : (k : Int) < 100 := by omega
          clear hx hxw hc hc0
          have hn0 := HNW.out.1
          have hn1 : now ≤ 5000 := by have := HNW.out.2; omega
          have ht0 := HXW.out.1
          have ht1 := HXW.out.2
          have ha2 : a ≤ 300 := by have h1 := HST.out.oi.len; have h2 := HCL.out.2; omega
          go_upto_region 14 with fail
          obtain ⟨now2, hnow2⟩ : ∃ z, now + t % 50 = z := ⟨_, rfl⟩
          rw [hnow2]
          have HN2 : Hid (0 ≤ now2 ∧ now2 ≤ 50 * (((k + 1 : Nat)) : Int)) := Lib.hid (by have := HNW.out; omega)
          have HOI := Lib.hid HST.out.oi
          clear hn0 hn1 ht0 ht1 hnow2 HNW f0 f1 f2 f3
          go_cut [59] from 35 to 103 (fun v59 wx => v59 = .bool (decide (s.isSome = true ∧ due ≤ now2)) ∧ wr = wx)
          case first =>
            go_wp2_with fail
            refine (open_to (b := s.isSome) CWr.out.isC rfl).mono ?_
            rintro e_ w3 ⟨rfl, hw⟩
            subst hw
            cases hs : s.isSome with
            | false =>
              go_wp2_with fail
              go_meet
              case rel => exact ⟨by rw [hs]; simp, rfl⟩
            | true =>
              by_cases hdu : due ≤ now2
              · go_wp2_with fail
                go_meet
                case rel => exact ⟨by rw [hs, decide_eq_true ⟨rfl, hdu⟩], rfl⟩
              · go_wp2_with fail
                go_meet
                case rel => exact ⟨by rw [hs]; simp [Int.not_le.2 hdu], rfl⟩
          case rest =>
            obtain ⟨rfl, rfl⟩ := hcut
            obtain ⟨ex, hex⟩ : ∃ z, decide (s.isSome = true ∧ due ≤ now2) = z := ⟨_, rfl⟩
            rw [hex]
            have HEX := Lib.hid hex
            clear hex
            go_upto_if 59 with fail
            go_cut [9] from 35 to 103 (fun tv wx => ∃ (F : Nat → Prop) (p : Option Nat) (s : CSt) (Vt : Option Addr) (a ct : Nat) (ts : List TE), tv = .slice Vt a ct ∧ Hid (ts.length = a) ∧ Hid (OSt w wx F g p win N s due Vc k cc Vt a ct ts came k (2 * k + 1)))
            case first =>
              cases ex with
              | false =>
                go_wp2_with fail
                go_meet
                case rel => exact ⟨F, p, s, Vt, a, ct, ts, rfl, Lib.hid HCL.out.2, Lib.hid ⟨HST.out.cw, HOI.out.more, HST.out.oc, HST.out.mc, HST.out.ot, HST.out.mt, HST.out.td⟩⟩
              | true =>
                obtain ⟨h1, h2⟩ := of_decide_eq_true HEX.out
                obtain ⟨⟨bx, ee⟩, rfl⟩ := Option.isSome_iff_exists.1 h1
                have HDU := Lib.hid (HOI.out.due _ _ rfl).1
                obtain ⟨nx, hnx⟩ : ∃ z, bx.1.length = z := ⟨_, rfl⟩
                obtain ⟨mx, hmx⟩ : ∃ z, bx.2.length = z := ⟨_, rfl⟩
                clear h1 h2 HEX
                go_wp2_with fail
                refine (cexp_to (n := nx) (m := mx) (b := bx) (s' := none) (is := true) (cexp_ge (by rw [HDU.out]; exact Int.lt_irrefl _)) hnx hmx CWr.out.isC).mono ?_
                rintro e_ w4 ⟨p4, A4, c4, M4, d4_, rfl, hp⟩
                have U6 : Upd (fun _ => False) w4 ((w4.alloc (.cells #[.slice A4 nx c4, .slice M4 mx d4_] 40)).alloc (.cells #[.slice A4 nx c4, .slice M4 mx d4_] 40)) := ((Upd.refl (fun _ => False) w4).alloc (.cells #[.slice A4 nx c4, .slice M4 mx d4_] 40)).alloc (.cells #[.slice A4 nx c4, .slice M4 mx d4_] 40)
                have CW6 := Lib.hid ((CWr.out.next hp).keep0 U6)
                have OC6 := Lib.hid (own_upd0 (CWr.out.own hp HST.out.oc (by decide) (by decide)) U6)
                have OT6 := Lib.hid (own_upd0 (CWr.out.own hp HST.out.ot (by decide) (by decide)) U6)
                have MC6 : Hid (∀ b_, (.slice Vc k cc : Value).ownBlock = some b_ → Nx F p4 b_) := Lib.hid (fun b_ h_ => .inl (HST.out.mc b_ h_))
                have MT6 : Hid (∀ b_, (.slice Vt a ct : Value).ownBlock = some b_ → Nx F p4 b_) := Lib.hid (fun b_ h_ => .inl (HST.out.mt b_ h_))
                have TD6 := Lib.hid ((CWr.out.told hp HST.out.td).keep0 U6)
                have KA6 := Lib.hid (hp.ka.keep0 U6)
                have KM6 := Lib.hid (hp.km.keep0 U6)
                have HSZ : Hid (w.heap.size ≤ w4.heap.size) := Lib.hid (CWr.out.next hp).upd.size
                have HNX := Lib.hid hnx
                have HMX := Lib.hid hmx
                clear hp U6 hnx hmx CWr
                go_wp2_with (at_builtin; go_loud (refine wpList_append_lies _ rfl _ _ 56 rfl w.heap.size 40 bi (.agg #[.slice none 0 0, .slice none 0 0]) 2 48 Try.underlying56 bj bz0 bz1 bz2 rfl (by decide) (.slice Vt a ct) a (fl te2 ts) rfl OT6.out ⟨(w4.heap.size + 1), 0, none⟩ 1 1 [.slice A4 nx c4, .slice M4 mx d4_] rfl rfl (Blk.new1 w4 (.cells #[.slice A4 nx c4, .slice M4 mx d4_] 40) #[.slice A4 nx c4, .slice M4 mx d4_] 40).news ?c5 (by omega) ?c7 ?c8 ?c9 ((w4.heap.size + 1) + 1) (by simp) ?_); (case c5 => intro u hu; simp only [List.mem_cons, List.not_mem_nil, or_false] at hu; rcases hu with rfl | rfl <;> rfl); (case c7 => unfold maxLen; omega); (case c8 => omega); (case c9 => have := HSZ.out; simp; omega); intro gg cp w7 hown hgrow hat hlt; have ST7 := Lib.hid (OSt.tellB CW6.out OC6.out MC6.out OT6.out MT6.out TD6.out HNX.out HMX.out KA6.out KM6.out hown hgrow (hat.imp_right (fun h => h.trans (by simp))) hlt (HOI.out.close ⟨A4, nx, c4, M4, mx, d4_, bx⟩ rfl)); clear hown hgrow hat hlt)
                go_meet
                case rel => exact ⟨_, p4, none, _, a + 1, cp, _, rfl, Lib.hid (by simp [HCL.out.2]), ST7⟩
            case rest =>
              have HCM := Lib.hid HCL.out.1
              clear HST HOI CWr HEX HCL ha2
              obtain ⟨F, p, s, Vt, a, ct, ts, rfl, HAL, HST⟩ := hcut
              have ha2 : a ≤ 300 := by have h1 := HST.out.oi.len; have h2 := HAL.out; omega
              have HOI := Lib.hid HST.out.oi
              have hb7 : b < wc.heap.size := Nat.lt_of_lt_of_le hb0 HST.out.cw.upd.size
              have q1_ : wc.cell? ⟨b, of + k * 4 + 1, none⟩ = some (.int .i64 id) := HB0.out wc HST.out.cw.upd 1 _ rfl
              have U5 : Upd (fun _ => False) wc (wc.alloc (.cells #[.int .i64 id] 3)) := (Upd.refl (fun _ => False) wc).alloc _
              have ST5 := Lib.hid (HST.out.keep0 U5)
              have HSZ : Hid (w.heap.size ≤ wc.heap.size) := Lib.hid HST.out.cw.upd.size
              clear U5 HST
              go_wp2_with (at_builtin; go_loud (refine wpList_append_lies _ rfl _ _ 27 rfl w.heap.size 3 k0 (.int .i64 0) 1 8 Try.underlying27 kj kz0 kz1 kz2 rfl (by decide) (.slice Vc k cc) k (nums came) rfl ST5.out.oc ⟨wc.heap.size, 0, none⟩ 1 1 [.int .i64 id] rfl rfl (Blk.new wc #[.int .i64 id] 3).news ?c5 (by omega) ?c7 ?c8 ?c9 (wc.heap.size + 1) (by simp) ?_); (case c5 => intro u hu; simp only [List.mem_cons, List.not_mem_nil, or_false] at hu; subst hu; rfl); (case c7 => unfold maxLen; omega); (case c8 => omega); (case c9 => have := HSZ.out; simp; omega); intro gg cp w7 hown hgrow hat hlt; have hz := OSt.comeB (id := id) ST5.out.cw ST5.out.oc ST5.out.mc ST5.out.ot ST5.out.mt ST5.out.td hown hgrow (hat.imp_right (fun h => h.trans (by simp))) hlt; have CW7 := Lib.hid hz.1; have OC := Lib.hid hz.2.1; have MC := Lib.hid hz.2.2.1; have OT := Lib.hid hz.2.2.2.1; have MT := Lib.hid hz.2.2.2.2.1; have TD := Lib.hid hz.2.2.2.2.2; have hb8 : b < w7.heap.size := Nat.lt_of_lt_of_le hb0 CW7.out.upd.size; have q1_ : w7.cell? ⟨b, of + k * 4 + 1, none⟩ = some (.int .i64 id) := HB0.out w7 CW7.out.upd 1 _ rfl; have q2_ : w7.cell? ⟨b, of + k * 4 + 2, none⟩ = some (.int .i64 arg) := HB0.out w7 CW7.out.upd 2 _ rfl; clear hz hown hgrow hat hlt)
              clear hb hb7 ST5 HSZ
              have hb := hb8
              clear hb8
              generalize Pl F gg = F7 at CW7 MC MT TD
              obtain ⟨s', op, rd, due2, bb, hadd⟩ : ∃ s' op rd due bb, cadd win (N : Int) s now2 id arg = (s', op, rd, due, bb) := ⟨_, _, _, _, _, rfl⟩
              have HOS := Lib.hid (ostep HN1.out HOI.out hadd)
              have HMM : Hid (cmem s' ≤ k + 1) := Lib.hid (by
                have h := (cadd_mem win (N : Int) s now2 id arg).1
                rw [hadd] at h
                exact Nat.le_trans h (Nat.succ_le_succ HOI.out.mem))
              have HADD := Lib.hid hadd
              have HN64 : Hid (W64 now2) := Lib.hid ⟨HN2.out.1, by have := HN2.out.2; omega⟩
              obtain ⟨nb, hnb⟩ : ∃ x, bb.1.length = x := ⟨_, rfl⟩
              obtain ⟨mb, hmb⟩ : ∃ x, bb.2.length = x := ⟨_, rfl⟩
              have HNB := Lib.hid hnb
              have HMB := Lib.hid hmb
              have hcm9 : cmem s ≤ 900 := by have := HOI.out.mem; omega
              have hca9 : cargs s ≤ 900 := by have := oi_args HN4.out HOI.out; omega
              clear hadd hnb hmb
              refine (show PLift ?Cut → _ from fun hcut => ?main) ⟨?pf⟩
              case main =>
                go_region_held3 (fun w' => w'.cell? ⟨b, of + k * 4 + 1, none⟩ = some (.int .i64 id) ∧ w'.cell? ⟨b, of + k * 4 + 2, none⟩ = some (.int .i64 arg)) (go_keep) (first | (go_at_call 13; have CWa := Lib.hid (CW7.out.grow (F' := (Pl F7 w7.heap.size)) (((Upd.refl (fun _ => False) w7).alloc (.cells zs 42)).drew) (pl_new w7 (.cells zs 42)) (fun _ h => .inl h)); have BAa := Lib.hid ((Blk.new w7 zs 42).drew); have OCa := Lib.hid (own_upd0 OC.out (((Upd.refl (fun _ => False) w7).alloc (.cells zs 42)).drew)); have MCa : Hid (∀ b_, (.slice (some ⟨gg, 0, none⟩) (k + 1) cp : Value).ownBlock = some b_ → (Pl F7 w7.heap.size) b_) := Lib.hid (fun b_ h_ => .inl (MC.out b_ h_)); have OTa := Lib.hid (own_upd0 OT.out (((Upd.refl (fun _ => False) w7).alloc (.cells zs 42)).drew)); have MTa : Hid (∀ b_, (.slice Vt a ct : Value).ownBlock = some b_ → (Pl F7 w7.heap.size) b_) := Lib.hid (fun b_ h_ => .inl (MT.out b_ h_)); have TDa := Lib.hid (TD.out.grow (((Upd.refl (fun _ => False) w7).alloc (.cells zs 42)).drew) (pl_new w7 (.cells zs 42))); (with_reducible refine (cadd_to (n := nb) (m := mb) HADD.out HNB.out HMB.out HW.out (fun _ => HN64.out) hcm9 hca9 CWa.out.isC).mono ?_); rintro e_ wC ⟨p6, A6, c6, M6, d6, rfl, hp⟩; have CWC := Lib.hid (CWa.out.next hp); have BAC := Lib.hid (CWa.out.blk hp BAa.out (by decide) (by decide)); have KAC : Hid (Kp wC (Nx (Pl F7 w7.heap.size) p6) A6 nb c6 (nums bb.1)) := Lib.hid hp.ka; have KMC : Hid (Kp wC (Nx (Pl F7 w7.heap.size) p6) M6 mb d6 (prs bb.2)) := Lib.hid hp.km; have OCC := Lib.hid (CWa.out.own hp OCa.out (by decide) (by decide)); have MCC : Hid (∀ b_, (.slice (some ⟨gg, 0, none⟩) (k + 1) cp : Value).ownBlock = some b_ → (Nx (Pl F7 w7.heap.size) p6) b_) := Lib.hid (fun b_ h_ => .inl (MCa.out b_ h_)); have OTC := Lib.hid (CWa.out.own hp OTa.out (by decide) (by decide)); have MTC : Hid (∀ b_, (.slice Vt a ct : Value).ownBlock = some b_ → (Nx (Pl F7 w7.heap.size) p6) b_) := Lib.hid (fun b_ h_ => .inl (MTa.out b_ h_)); have TDC : Hid (Told wC (Nx (Pl F7 w7.heap.size) p6) (ts)) := Lib.hid (CWa.out.told hp TDa.out); have g1 : wC.cell? ⟨b, of + k * 4 + 1, none⟩ = some (.int .i64 id) := HB0.out wC CWC.out.upd 1 _ rfl; have g2 : wC.cell? ⟨b, of + k * 4 + 2, none⟩ = some (.int .i64 arg) := HB0.out wC CWC.out.upd 2 _ rfl; have y1 := BAC.out.lt; have y2 := BAC.out.frz; have y3 : ∀ (W : World) (i j : Nat) (u : Value), (W.setCell ⟨w7.heap.size, j, none⟩ u).cell? ⟨b, i, none⟩ = W.cell? ⟨b, i, none⟩ := cell_far (Nat.ne_of_lt hb); have z0 : wC.cell? ⟨w7.heap.size, 0, none⟩ = some (.bool false) := BAC.out.cell 0; have z1 : wC.cell? ⟨w7.heap.size, 1, none⟩ = some (.bool false) := BAC.out.cell 1; have z2 : wC.cell? ⟨w7.heap.size, 2, none⟩ = some (.int .u64 0) := BAC.out.cell 2; have z3 : wC.cell? ⟨w7.heap.size, 3, none⟩ = some (.slice none 0 0) := BAC.out.cell 3; have z4 : wC.cell? ⟨w7.heap.size, 4, none⟩ = some (.slice none 0 0) := BAC.out.cell 4; clear hp OCa MCa OTa MTa TDa) | (go_at_call 13; have CWa := Lib.hid (CW7.out.keep0 ((Upd.refl (fun _ => False) w7).drew)); have OCa := Lib.hid (own_upd0 OC.out ((Upd.refl (fun _ => False) w7).drew)); have MCa : Hid (∀ b_, (.slice (some ⟨gg, 0, none⟩) (k + 1) cp : Value).ownBlock = some b_ → F7 b_) := Lib.hid (MC.out); have OTa := Lib.hid (own_upd0 OT.out ((Upd.refl (fun _ => False) w7).drew)); have MTa : Hid (∀ b_, (.slice Vt a ct : Value).ownBlock = some b_ → F7 b_) := Lib.hid (MT.out); have TDa := Lib.hid (TD.out.grow ((Upd.refl (fun _ => False) w7).drew) (fun k hk => .inl hk)); (with_reducible refine (cadd_to (n := nb) (m := mb) HADD.out HNB.out HMB.out HW.out (fun _ => HN64.out) hcm9 hca9 CWa.out.isC).mono ?_); rintro e_ wC ⟨p6, A6, c6, M6, d6, rfl, hp⟩; have CWC := Lib.hid (CWa.out.next hp); have KAC : Hid (Kp wC (Nx F7 p6) A6 nb c6 (nums bb.1)) := Lib.hid hp.ka; have KMC : Hid (Kp wC (Nx F7 p6) M6 mb d6 (prs bb.2)) := Lib.hid hp.km; have OCC := Lib.hid (CWa.out.own hp OCa.out (by decide) (by decide)); have MCC : Hid (∀ b_, (.slice (some ⟨gg, 0, none⟩) (k + 1) cp : Value).ownBlock = some b_ → (Nx F7 p6) b_) := Lib.hid (fun b_ h_ => .inl (MCa.out b_ h_)); have OTC := Lib.hid (CWa.out.own hp OTa.out (by decide) (by decide)); have MTC : Hid (∀ b_, (.slice Vt a ct : Value).ownBlock = some b_ → (Nx F7 p6) b_) := Lib.hid (fun b_ h_ => .inl (MTa.out b_ h_)); have TDC : Hid (Told wC (Nx F7 p6) (ts)) := Lib.hid (CWa.out.told hp TDa.out); have g1 : wC.cell? ⟨b, of + k * 4 + 1, none⟩ = some (.int .i64 id) := HB0.out wC CWC.out.upd 1 _ rfl; have g2 : wC.cell? ⟨b, of + k * 4 + 2, none⟩ = some (.int .i64 arg) := HB0.out wC CWC.out.upd 2 _ rfl; clear hp OCa MCa OTa MTa TDa))
                all_goals first
                  | (rename_i hh_
                     have CW6 : Hid (CW w (wC.alloc (.cells #[.bool op, .bool rd, .int .u64 due2, .slice A6 nb c6, .slice M6 mb d6] 42)) (Pl (Nx F7 p6) wC.heap.size) g p6 win (N : Int) (s')) := Lib.hid (CWC.out.grow ((Upd.refl (fun _ => False) wC).alloc (.cells #[.bool op, .bool rd, .int .u64 due2, .slice A6 nb c6, .slice M6 mb d6] 42)) (pl_new' wC (.cells #[.bool op, .bool rd, .int .u64 due2, .slice A6 nb c6, .slice M6 mb d6] 42)) (fun _ h => .inl h))
                     have KA6 : Hid (Kp (wC.alloc (.cells #[.bool op, .bool rd, .int .u64 due2, .slice A6 nb c6, .slice M6 mb d6] 42)) (Pl (Nx F7 p6) wC.heap.size) A6 nb c6 (nums bb.1)) := Lib.hid (KAC.out.grow ((Upd.refl (fun _ => False) wC).alloc (.cells #[.bool op, .bool rd, .int .u64 due2, .slice A6 nb c6, .slice M6 mb d6] 42)) (pl_new' wC (.cells #[.bool op, .bool rd, .int .u64 due2, .slice A6 nb c6, .slice M6 mb d6] 42)))
                     have KM6 : Hid (Kp (wC.alloc (.cells #[.bool op, .bool rd, .int .u64 due2, .slice A6 nb c6, .slice M6 mb d6] 42)) (Pl (Nx F7 p6) wC.heap.size) M6 mb d6 (prs bb.2)) := Lib.hid (KMC.out.grow ((Upd.refl (fun _ => False) wC).alloc (.cells #[.bool op, .bool rd, .int .u64 due2, .slice A6 nb c6, .slice M6 mb d6] 42)) (pl_new' wC (.cells #[.bool op, .bool rd, .int .u64 due2, .slice A6 nb c6, .slice M6 mb d6] 42)))
                     have B6 : Hid (Blk (wC.alloc (.cells #[.bool op, .bool rd, .int .u64 due2, .slice A6 nb c6, .slice M6 mb d6] 42)) wC.heap.size 42 #[.bool op, .bool rd, .int .u64 due2, .slice A6 nb c6, .slice M6 mb d6]) := Lib.hid (Blk.new wC #[.bool op, .bool rd, .int .u64 due2, .slice A6 nb c6, .slice M6 mb d6] 42)
                     have OC6 : Hid ((wC.alloc (.cells #[.bool op, .bool rd, .int .u64 due2, .slice A6 nb c6, .slice M6 mb d6] 42)).ownsRow (w.heap.size) 3 1 (.slice (some ⟨gg, 0, none⟩) (k + 1) cp) (k + 1) (nums (came ++ [id]))) := Lib.hid (own_alloc OCC.out _)
                     have MC6 : Hid (∀ b_, (.slice (some ⟨gg, 0, none⟩) (k + 1) cp : Value).ownBlock = some b_ → (Pl (Nx F7 p6) wC.heap.size) b_) := Lib.hid (fun b_ h_ => .inl (MCC.out b_ h_))
                     have OT6 : Hid ((wC.alloc (.cells #[.bool op, .bool rd, .int .u64 due2, .slice A6 nb c6, .slice M6 mb d6] 42)).ownsRow (w.heap.size) 40 2 (.slice Vt a ct) (a) (fl te2 ts)) := Lib.hid (own_alloc OTC.out _)
                     have MT6 : Hid (∀ b_, (.slice Vt a ct : Value).ownBlock = some b_ → (Pl (Nx F7 p6) wC.heap.size) b_) := Lib.hid (fun b_ h_ => .inl (MTC.out b_ h_))
                     have TD6 : Hid (Told (wC.alloc (.cells #[.bool op, .bool rd, .int .u64 due2, .slice A6 nb c6, .slice M6 mb d6] 42)) (Pl (Nx F7 p6) wC.heap.size) (ts)) := Lib.hid (TDC.out.grow ((Upd.refl (fun _ => False) wC).alloc (.cells #[.bool op, .bool rd, .int .u64 due2, .slice A6 nb c6, .slice M6 mb d6] 42)) (pl_new' wC (.cells #[.bool op, .bool rd, .int .u64 due2, .slice A6 nb c6, .slice M6 mb d6] 42)))
                     have PF6 : Hid ((Pl (Nx F7 p6) wC.heap.size) wC.heap.size) := Lib.hid (.inr rfl)
                     clear hh_ CWC KAC KMC CWa g1 g2 OCC MCC OTC MTC TDC
                     generalize (wC.alloc (.cells #[.bool op, .bool rd, .int .u64 due2, .slice A6 nb c6, .slice M6 mb d6] 42)) = W6 at CW6 KA6 KM6 B6 OC6 OT6 TD6 ⊢
                     generalize (Pl (Nx F7 p6) wC.heap.size) = F6 at CW6 KA6 KM6 PF6 MC6 MT6 TD6
                     generalize wC.heap.size = ga at B6 PF6 ⊢
                     revert PF6
                     revert TD6
                     revert MT6
                     revert OT6
                     revert MC6
                     revert OC6
                     revert B6
                     revert KM6
                     revert KA6
                     revert CW6
                     revert ga F6 W6 d6 M6 c6 A6 p6
                     exact hcut.down)
                  | (rename_i hh_
                     have hn_ : ∀ k, Fr2 g p6 k → ¬ At w7.heap.size k := fun k hk h1 => CWC.out.isC.ne_blk BAC.out (by decide) (by decide) (show Fr2 g p6 w7.heap.size from h1 ▸ hk)
                     have hw_ : Upd (At w7.heap.size) wC (((((wC.setCell ⟨w7.heap.size, 0, none⟩ (.bool op)).setCell ⟨w7.heap.size, 1, none⟩ (.bool rd)).setCell ⟨w7.heap.size, 2, none⟩ (.int .u64 due2)).setCell ⟨w7.heap.size, 3, none⟩ (.slice A6 nb c6)).setCell ⟨w7.heap.size, 4, none⟩ (.slice M6 mb d6)) := Upd.w5 (.bool op) (.bool rd) (.int .u64 due2) (.slice A6 nb c6) (.slice M6 mb d6) (Upd.refl _ _) (.inl rfl)
                     have CW6 : Hid (CW w (((((wC.setCell ⟨w7.heap.size, 0, none⟩ (.bool op)).setCell ⟨w7.heap.size, 1, none⟩ (.bool rd)).setCell ⟨w7.heap.size, 2, none⟩ (.int .u64 due2)).setCell ⟨w7.heap.size, 3, none⟩ (.slice A6 nb c6)).setCell ⟨w7.heap.size, 4, none⟩ (.slice M6 mb d6)) (Nx (Pl F7 w7.heap.size) p6) g p6 win (N : Int) (s')) := Lib.hid (CWC.out.write hw_ (fun k hk => .inl (.inr hk)) hn_)
                     have KA6 : Hid (Kp (((((wC.setCell ⟨w7.heap.size, 0, none⟩ (.bool op)).setCell ⟨w7.heap.size, 1, none⟩ (.bool rd)).setCell ⟨w7.heap.size, 2, none⟩ (.int .u64 due2)).setCell ⟨w7.heap.size, 3, none⟩ (.slice A6 nb c6)).setCell ⟨w7.heap.size, 4, none⟩ (.slice M6 mb d6)) (Nx (Pl F7 w7.heap.size) p6) A6 nb c6 (nums bb.1)) := Lib.hid (KAC.out.keep hw_ (fun k hk => .inl (.inr hk)))
                     have KM6 : Hid (Kp (((((wC.setCell ⟨w7.heap.size, 0, none⟩ (.bool op)).setCell ⟨w7.heap.size, 1, none⟩ (.bool rd)).setCell ⟨w7.heap.size, 2, none⟩ (.int .u64 due2)).setCell ⟨w7.heap.size, 3, none⟩ (.slice A6 nb c6)).setCell ⟨w7.heap.size, 4, none⟩ (.slice M6 mb d6)) (Nx (Pl F7 w7.heap.size) p6) M6 mb d6 (prs bb.2)) := Lib.hid (KMC.out.keep hw_ (fun k hk => .inl (.inr hk)))
                     have B6 : Hid (Blk (((((wC.setCell ⟨w7.heap.size, 0, none⟩ (.bool op)).setCell ⟨w7.heap.size, 1, none⟩ (.bool rd)).setCell ⟨w7.heap.size, 2, none⟩ (.int .u64 due2)).setCell ⟨w7.heap.size, 3, none⟩ (.slice A6 nb c6)).setCell ⟨w7.heap.size, 4, none⟩ (.slice M6 mb d6)) w7.heap.size 42 #[.bool op, .bool rd, .int .u64 due2, .slice A6 nb c6, .slice M6 mb d6]) := Lib.hid (Blk.w5 (.bool op) (.bool rd) (.int .u64 due2) (.slice A6 nb c6) (.slice M6 mb d6) BAC.out)
                     have OC6 : Hid ((((((wC.setCell ⟨w7.heap.size, 0, none⟩ (.bool op)).setCell ⟨w7.heap.size, 1, none⟩ (.bool rd)).setCell ⟨w7.heap.size, 2, none⟩ (.int .u64 due2)).setCell ⟨w7.heap.size, 3, none⟩ (.slice A6 nb c6)).setCell ⟨w7.heap.size, 4, none⟩ (.slice M6 mb d6)).ownsRow (w.heap.size) 3 1 (.slice (some ⟨gg, 0, none⟩) (k + 1) cp) (k + 1) (nums (came ++ [id]))) := Lib.hid (own_upd OCC.out hw_ (fun b_ hb_ h1_ => own_sep OCC.out BAC.out (by decide) (by rw [hb_, show b_ = w7.heap.size from h1_])))
                     have MC6 : Hid (∀ b_, (.slice (some ⟨gg, 0, none⟩) (k + 1) cp : Value).ownBlock = some b_ → (Nx (Pl F7 w7.heap.size) p6) b_) := Lib.hid (MCC.out)
                     have OT6 : Hid ((((((wC.setCell ⟨w7.heap.size, 0, none⟩ (.bool op)).setCell ⟨w7.heap.size, 1, none⟩ (.bool rd)).setCell ⟨w7.heap.size, 2, none⟩ (.int .u64 due2)).setCell ⟨w7.heap.size, 3, none⟩ (.slice A6 nb c6)).setCell ⟨w7.heap.size, 4, none⟩ (.slice M6 mb d6)).ownsRow (w.heap.size) 40 2 (.slice Vt a ct) (a) (fl te2 ts)) := Lib.hid (own_upd OTC.out hw_ (fun b_ hb_ h1_ => own_sep OTC.out BAC.out (by decide) (by rw [hb_, show b_ = w7.heap.size from h1_])))
                     have MT6 : Hid (∀ b_, (.slice Vt a ct : Value).ownBlock = some b_ → (Nx (Pl F7 w7.heap.size) p6) b_) := Lib.hid (MTC.out)
                     have TD6 : Hid (Told (((((wC.setCell ⟨w7.heap.size, 0, none⟩ (.bool op)).setCell ⟨w7.heap.size, 1, none⟩ (.bool rd)).setCell ⟨w7.heap.size, 2, none⟩ (.int .u64 due2)).setCell ⟨w7.heap.size, 3, none⟩ (.slice A6 nb c6)).setCell ⟨w7.heap.size, 4, none⟩ (.slice M6 mb d6)) (Nx (Pl F7 w7.heap.size) p6) (ts)) := Lib.hid (TDC.out.keep hw_ (fun k hk => .inl (.inr hk)))
                     have PF6 : Hid ((Nx (Pl F7 w7.heap.size) p6) w7.heap.size) := Lib.hid (.inl (.inr rfl))
                     clear hh_ CWC KAC KMC CWa g1 g2 OCC MCC OTC MTC TDC BAC hn_ hw_ y1 y2 z0 z1 z2 z3 z4
                     generalize (((((wC.setCell ⟨w7.heap.size, 0, none⟩ (.bool op)).setCell ⟨w7.heap.size, 1, none⟩ (.bool rd)).setCell ⟨w7.heap.size, 2, none⟩ (.int .u64 due2)).setCell ⟨w7.heap.size, 3, none⟩ (.slice A6 nb c6)).setCell ⟨w7.heap.size, 4, none⟩ (.slice M6 mb d6)) = W6 at CW6 KA6 KM6 B6 OC6 OT6 TD6 ⊢
                     generalize (Nx (Pl F7 w7.heap.size) p6) = F6 at CW6 KA6 KM6 PF6 MC6 MT6 TD6
                     generalize w7.heap.size = ga at B6 PF6 ⊢
                     revert PF6
                     revert TD6
                     revert MT6
                     revert OT6
                     revert MC6
                     revert OC6
                     revert B6
                     revert KM6
                     revert KA6
                     revert CW6
                     revert ga F6 W6 d6 M6 c6 A6 p6
                     exact hcut.down)
              case pf =>
                intro p6 A6 c6 M6 d6 W6 F6 ga CW6 KA6 KM6 B6 OC6 MC6 OT6 MT6 TD6 PF6
                have c0_ : W6.cell? ⟨ga, 0, none⟩ = some (.bool op) := B6.out.cell 0
                have c1_ : W6.cell? ⟨ga, 1, none⟩ = some (.bool rd) := B6.out.cell 1
                have c2_ : W6.cell? ⟨ga, 2, none⟩ = some (.int .u64 due2) := B6.out.cell 2
                have c3_ : W6.cell? ⟨ga, 3, none⟩ = some (.slice A6 nb c6) := B6.out.cell 3
                have c4_ : W6.cell? ⟨ga, 4, none⟩ = some (.slice M6 mb d6) := B6.out.cell 4
                have cl_ := B6.out.lt
                go_upto_if 94 with fail
                go_cut [11] from 35 to 103 (fun dv wx => dv = .int .u64 (if op = true then due2 else due) ∧ W6 = wx)
                case first =>
                  cases op
                  · go_wp2_with fail
                    go_meet
                    case rel => exact ⟨rfl, rfl⟩
                  · go_wp2_with fail
                    go_meet
                    case rel => exact ⟨rfl, rfl⟩
                case rest =>
                  obtain ⟨rfl, rfl⟩ := hcut
                  have OI6 := HOI
                  clear HOI
                  obtain ⟨due3, hdue3⟩ : ∃ z, (if op = true then due2 else due) = z := ⟨_, rfl⟩
                  rw [hdue3]
                  cases rd with
                  | false =>
                    have HO := Lib.hid (OI6.out.add HOS.out HMM.out rfl)
                    rw [hdue3] at HO
                    clear hdue3
                    go_wp2_with fail
                    go_roundw
                    case rel => exact ⟨F6, p6, s', _, k + 1, cp, Vt, a, ct, ts, came ++ [id], now2, due3, by omega, by omega, rfl, rfl, rfl, rfl, by go_num, HN2, Lib.hid ⟨by simp [HCM.out], HAL.out⟩, Lib.hid ⟨CW6.out, HO.out, OC6.out, MC6.out, OT6.out, MT6.out, TD6.out⟩⟩
                    case measure => simp [intOf]; omega
                  | true =>
                    have HO := Lib.hid (OI6.out.addR HOS.out rfl ⟨A6, nb, c6, M6, mb, d6, bb⟩ rfl due3)
                    have U7 : Upd (fun _ => False) W6 (W6.alloc (.cells #[.slice A6 nb c6, .slice M6 mb d6] 40)) := (Upd.refl (fun _ => False) W6).alloc _
                    have CW7 := Lib.hid (CW6.out.keep0 U7)
                    have OC7 := Lib.hid (own_upd0 OC6.out U7)
                    have OT7 := Lib.hid (own_upd0 OT6.out U7)
                    have TD7 := Lib.hid (TD6.out.keep0 U7)
                    have KA7 := Lib.hid (KA6.out.keep0 U7)
                    have KM7 := Lib.hid (KM6.out.keep0 U7)
                    have HSZ : Hid (w.heap.size ≤ W6.heap.size) := Lib.hid CW6.out.upd.size
                    clear hdue3 U7
                    go_wp2_with (at_builtin; go_loud (refine wpList_append_lies _ rfl _ _ 56 rfl w.heap.size 40 bi (.agg #[.slice none 0 0, .slice none 0 0]) 2 48 Try.underlying56 bj bz0 bz1 bz2 rfl (by decide) (.slice Vt a ct) a (fl te2 ts) rfl OT7.out ⟨W6.heap.size, 0, none⟩ 1 1 [.slice A6 nb c6, .slice M6 mb d6] rfl rfl (Blk.new W6 #[.slice A6 nb c6, .slice M6 mb d6] 40).news ?c5 (by omega) ?c7 ?c8 ?c9 (W6.heap.size + 1) (by simp) ?_); (case c5 => intro u hu; simp only [List.mem_cons, List.not_mem_nil, or_false] at hu; rcases hu with rfl | rfl <;> rfl); (case c7 => unfold maxLen; omega); (case c8 => omega); (case c9 => have := HSZ.out; simp; omega); intro gg2 cp2 w7 hown hgrow hat hlt; have ST7 := Lib.hid (OSt.tellB CW7.out OC7.out MC6.out OT7.out MT6.out TD7.out HNB.out HMB.out KA7.out KM7.out hown hgrow (hat.imp_right (fun h => h.trans (by simp))) hlt HO.out); clear hown hgrow hat hlt)
                    go_roundw
                    case rel => exact ⟨_, p6, s', _, k + 1, _, _, a + 1, _, _, came ++ [id], now2, due3, by omega, by omega, rfl, rfl, rfl, rfl, by go_num, HN2, Lib.hid ⟨by simp [HCM.out], by simp [HAL.out]⟩, ST7⟩
                    case measure => simp [intOf]; omega
        · have hq : ¬ (k : Int) < 100 := by omega
          have hq1 : (k : Int) < (len : Int) := by omega
          go_wp2_with fail
          go_meet
          case rel => exact ⟨F, p, s, Vc, k, cc, Vt, a, ct, ts, came, due, rfl, rfl, Lib.hid hk2, HCL, HST⟩
      · have hq : ¬ (k : Int) < (len : Int) := by omega
        go_wp2_with fail
        go_meet
        case rel => exact ⟨F, p, s, Vc, k, cc, Vt, a, ct, ts, came, due, rfl, rfl, Lib.hid hk2, HCL, HST⟩
  case rest =>
    obtain ⟨F, p, s, Vc, k, cc, Vt, a, ct, ts, came, due, rfl, rfl, HK, HCL, HST⟩ := hcut
    obtain ⟨bx, ix, hexp, hi0, hi1⟩ : ∃ bx ix, cexp s 18446744073709551615 = (none, bx, ix) ∧ (ix = false → s = none) ∧ (ix = true → ∃ e, s = some (bx, e)) := by
      have hd := HST.out.oi.due
      cases s with
      | none => exact ⟨_, _, rfl, fun _ => rfl, fun h => by cases h⟩
      | some be =>
        obtain ⟨bx, e⟩ := be
        obtain ⟨h1, h2⟩ := hd _ _ rfl
        exact ⟨bx, true, cexp_ge (by omega), (fun h => by cases h), (fun _ => ⟨e, rfl⟩)⟩
    have HEXP := Lib.hid hexp
    have HI0 := Lib.hid hi0
    have HI1 := Lib.hid hi1
    have CWr := Lib.hid HST.out.cw
    have HOI := Lib.hid HST.out.oi
    have ha2 : a ≤ 300 := by have h1 := HST.out.oi.len; have h2 := HCL.out.2; have h3 := HK.out; omega
    obtain ⟨nx, hnx⟩ : ∃ z, bx.1.length = z := ⟨_, rfl⟩
    obtain ⟨mx, hmx⟩ : ∃ z, bx.2.length = z := ⟨_, rfl⟩
    clear hexp hi0 hi1
    go_wp2_with fail
    refine (cexp_to (n := nx) (m := mx) (b := bx) (s' := none) (is := ix) HEXP.out hnx hmx CWr.out.isC).mono ?_
    rintro e_ w4 ⟨p4, A4, c4, M4, d4_, rfl, hp⟩
    have U6 : Upd (fun _ => False) w4 ((w4.alloc (.cells #[.slice A4 nx c4, .slice M4 mx d4_] 40)).alloc (.cells #[.slice A4 nx c4, .slice M4 mx d4_] 40)) := ((Upd.refl (fun _ => False) w4).alloc (.cells #[.slice A4 nx c4, .slice M4 mx d4_] 40)).alloc (.cells #[.slice A4 nx c4, .slice M4 mx d4_] 40)
    have CW6 := Lib.hid ((CWr.out.next hp).keep0 U6)
    have OC6 := Lib.hid (own_upd0 (CWr.out.own hp HST.out.oc (by decide) (by decide)) U6)
    have OT6 := Lib.hid (own_upd0 (CWr.out.own hp HST.out.ot (by decide) (by decide)) U6)
    have MC6 : Hid (∀ b_, (.slice Vc k cc : Value).ownBlock = some b_ → Nx F p4 b_) := Lib.hid (fun b_ h_ => .inl (HST.out.mc b_ h_))
    have MT6 : Hid (∀ b_, (.slice Vt a ct : Value).ownBlock = some b_ → Nx F p4 b_) := Lib.hid (fun b_ h_ => .inl (HST.out.mt b_ h_))
    have TD6 := Lib.hid ((CWr.out.told hp HST.out.td).keep0 U6)
    have KA6 := Lib.hid (hp.ka.keep0 U6)
    have KM6 := Lib.hid (hp.km.keep0 U6)
    have HSZ : Hid (w.heap.size ≤ w4.heap.size) := Lib.hid (CWr.out.next hp).upd.size
    have HNX := Lib.hid hnx
    have HMX := Lib.hid hmx
    have U5 : Upd (fun _ => False) w4 (w4.alloc (.cells #[.slice A4 nx c4, .slice M4 mx d4_] 40)) := (Upd.refl (fun _ => False) w4).alloc (.cells #[.slice A4 nx c4, .slice M4 mx d4_] 40)
    have CW5 := Lib.hid ((CWr.out.next hp).keep0 U5)
    have OC5 := Lib.hid (own_upd0 (CWr.out.own hp HST.out.oc (by decide) (by decide)) U5)
    have OT5 := Lib.hid (own_upd0 (CWr.out.own hp HST.out.ot (by decide) (by decide)) U5)
    have TD5 := Lib.hid ((CWr.out.told hp HST.out.td).keep0 U5)
    clear hp U6 U5 hnx hmx CWr
    go_upto_if 109 with fail
    go_cut [9] from 109 to 113 (fun tv wx => ∃ (F : Nat → Prop) (p : Option Nat) (Vt : Option Addr) (a ct : Nat) (ts : List TE), tv = .slice Vt a ct ∧ Hid (ts.length = a) ∧ Hid (a ≤ 301) ∧ Hid (OSt w wx F g p win N none due Vc k cc Vt a ct ts came k (2 * k + 1)))
    case first =>
      cases ix with
      | false =>
        obtain rfl := HI0.out rfl
        go_wp2_with fail
        go_meet
        case rel => exact ⟨Nx F p4, p4, Vt, a, ct, ts, rfl, Lib.hid HCL.out.2, Lib.hid (Nat.le_succ_of_le ha2), Lib.hid ⟨CW5.out, HOI.out.more, OC5.out, MC6.out, OT5.out, MT6.out, TD5.out⟩⟩
      | true =>
        obtain ⟨ee, hee⟩ := HI1.out rfl
        subst hee
        go_wp2_with (at_builtin; go_loud (refine wpList_append_lies _ rfl _ _ 56 rfl w.heap.size 40 bi (.agg #[.slice none 0 0, .slice none 0 0]) 2 48 Try.underlying56 bj bz0 bz1 bz2 rfl (by decide) (.slice Vt a ct) a (fl te2 ts) rfl OT6.out ⟨(w4.heap.size + 1), 0, none⟩ 1 1 [.slice A4 nx c4, .slice M4 mx d4_] rfl rfl (Blk.new1 w4 (.cells #[.slice A4 nx c4, .slice M4 mx d4_] 40) #[.slice A4 nx c4, .slice M4 mx d4_] 40).news ?c5 (by omega) ?c7 ?c8 ?c9 ((w4.heap.size + 1) + 1) (by simp) ?_); (case c5 => intro u hu; simp only [List.mem_cons, List.not_mem_nil, or_false] at hu; rcases hu with rfl | rfl <;> rfl); (case c7 => unfold maxLen; omega); (case c8 => omega); (case c9 => have := HSZ.out; simp; omega); intro gg cp w7 hown hgrow hat hlt; have ST7 := Lib.hid (OSt.tellB CW6.out OC6.out MC6.out OT6.out MT6.out TD6.out HNX.out HMX.out KA6.out KM6.out hown hgrow (hat.imp_right (fun h => h.trans (by simp))) hlt (HOI.out.close ⟨A4, nx, c4, M4, mx, d4_, bx⟩ rfl)); clear hown hgrow hat hlt)
        go_meet
        case rel => exact ⟨_, p4, _, a + 1, cp, _, rfl, Lib.hid (by simp [HCL.out.2]), Lib.hid (Nat.succ_le_succ ha2), ST7⟩
    case rest =>
      have HCM := Lib.hid HCL.out.1
      clear HST HOI CW5 OC5 OT5 TD5 CW6 OC6 OT6 MC6 MT6 TD6 KA6 KM6 HSZ HNX HMX HCL ha2 HI0 HI1 HEXP
      obtain ⟨F, p, Vt, a, ct, ts, rfl, HAL, HA3, HST⟩ := hcut
      have CWz := Lib.hid HST.out.cw
      have OC := Lib.hid HST.out.oc
      have OT := Lib.hid HST.out.ot
      have TD := Lib.hid HST.out.td
      have HID : Hid (tids ts = came) := Lib.hid (by have := HST.out.oi.ids; simpa [oids] using this)
      have HAR := Lib.hid HST.out.oi.args
      clear HST
      go_wp2_with fail
      go_loopw [18, 19] (fun av iv wr => ∃ (i : Nat), i ≤ a ∧ iv = .int .i64 i ∧ av = .int .i64 ((tids (ts.take i)).length : Nat) ∧ Hid (Upd (fun _ => False) wc wr)) (fun _ iv _ => a - (intOf iv).toNat)
      case atStart => exact ⟨0, Nat.zero_le _, rfl, rfl, Lib.hid (Upd.refl _ _)⟩
      case round =>
        obtain ⟨i, hi, rfl, rfl, HUr⟩ := hrel
        by_cases hia : i < a
        · obtain ⟨te, hte⟩ : ∃ x, ts[i]? = some x := ⟨ts[i]'(by rw [HAL.out]; exact hia), List.getElem?_eq_getElem _⟩
          obtain ⟨V2, vc2, e, hsv, _⟩ := Sl.of_own OT.out
          injection e with e1 e2 e3
          subst e1 e3
          obtain ⟨tb, tof, rfl, htb, htc⟩ := hsv.row te2_len (by decide) hte
          obtain ⟨hn_, hm_, hka, hkm⟩ := TD.out te (List.mem_of_getElem? hte)
          have har := HAR.out te (List.mem_of_getElem? hte)
          have HSTEP := Lib.hid (tids_step hte)
          have HGET : Hid (∀ {q : Nat} {m_ : Int × Int}, te.b.2[q]? = some m_ → (tids ts)[(tids (ts.take i)).length + q]? = some m_.1) := Lib.hid (fun h => tids_get hte h)
          obtain ⟨A, n, c, M, m, d, bt⟩ := te
          simp only at hn_ hm_ hka hkm har HSTEP HGET
          have y0 : wc.cell? ⟨tb, tof + i * 2, none⟩ = some (.slice A n c) := htc 0 _ rfl
          have y1 : wc.cell? ⟨tb, tof + (i * 2 + 1), none⟩ = some (.slice M m d) := htc 1 _ rfl
          rw [← Nat.add_assoc] at y1
          have Y0 : Hid (∀ W, Upd (fun _ => False) wc W → W.cell? ⟨tb, tof + i * 2, none⟩ = some (.slice A n c)) := Lib.hid (fun W hu => (hu.cellq htb (fun h => h)).trans y0)
          have Y1 : Hid (∀ W, Upd (fun _ => False) wc W → W.cell? ⟨tb, tof + i * 2 + 1, none⟩ = some (.slice M m d)) := Lib.hid (fun W hu => (hu.cellq htb (fun h => h)).trans y1)
          have z0 := Y0.out wr HUr.out
          have z1 := Y1.out wr HUr.out
          have i0 : (0 : Int) ≤ (i : Int) := Int.natCast_nonneg _
          have i1 : (i : Int) < (a : Int) := by omega
          have n1_ : ¬ (n : Int) < 1 := by omega
          have n2_ : ¬ (N : Int) < (n : Int) := by omega
          have HKM := Lib.hid hkm
          have hm63 : m ≤ 9223372036854775807 := by have h1 := hkm.sl.le; have h2 := hkm.sl.cm; unfold maxLen at h2; omega
          have hk63 : k ≤ 100 := HK.out
          have ha63 : a ≤ 301 := HA3.out
          have HMM := Lib.hid hm_
          obtain ⟨q0, hq0⟩ : ∃ z, (tids (ts.take i)).length = z := ⟨_, rfl⟩
          rw [hq0] at HSTEP HGET ⊢
          clear hn_ hm_ hka hkm har y0 y1 htc hsv hte
          go_wp2_with fail
          go_loopw [18, 20] (fun av kv w2 => ∃ (q r : Nat), r = q0 + q ∧ q ≤ m ∧ kv = .int .i64 q ∧ av = .int .i64 (r : Int) ∧ Hid (Upd (fun _ => False) wc w2)) (fun _ kv _ => m - (intOf kv).toNat)
          case atStart => exact ⟨0, q0, rfl, Nat.zero_le _, rfl, rfl, HUr⟩
          case round =>
            obtain ⟨q, r, hr, hq, rfl, rfl, HU2⟩ := hrel
            have HR := Lib.hid hr
            have z3 := Y1.out _ HU2.out
            clear z0 z1 hr
            by_cases hqm : q < m
            · obtain ⟨mm, hmm⟩ : ∃ x, bt.2[q]? = some x := ⟨bt.2[q]'(by rw [HMM.out]; exact hqm), List.getElem?_eq_getElem _⟩
              have hg := HGET.out hmm
              rw [HID.out, ← HR.out] at hg
              have hlt := (List.getElem?_eq_some_iff.1 hg).1
              rw [HCM.out] at hlt
              obtain ⟨mb_, mo, rfl, hmb, hm1, _⟩ := (HKM.out.keep0 HU2.out).sl.pr hmm
              obtain ⟨V3, vc3, e, hsv3, _⟩ := Sl.of_own (own_upd0 OC.out HU2.out)
              injection e with e1 e2 e3
              subst e1 e3
              obtain ⟨vb, vo, rfl, hvb, hvc⟩ := hsv3.num hg
              have j0 : (0 : Int) ≤ (q : Int) := Int.natCast_nonneg _
              have j1 : (q : Int) < (m : Int) := by omega
              have j2 : (0 : Int) ≤ (r : Int) := Int.natCast_nonneg _
              have j3 : (r : Int) < (k : Int) := by omega
              clear hmm hg hsv3
              go_wp2_with fail
              go_quiet (fail)
              go_wp2
              go_roundw
              case rel => exact ⟨q + 1, r + 1, by rw [HR.out]; omega, by omega, by go_num, by go_num, Lib.hid (HU2.out.drewN _)⟩
              case measure => simp [intOf]; omega
            · obtain rfl : q = m := by omega
              have HS2 : Hid ((tids (ts.take (i + 1))).length = r) := Lib.hid (by rw [HSTEP.out, HMM.out, HR.out])
              have j0 : (0 : Int) ≤ (q : Int) := Int.natCast_nonneg _
              go_wp2
              go_roundw
              case rel => exact ⟨i + 1, by omega, by go_num, by rw [HS2.out], HU2⟩
              case measure => simp [intOf]; omega
        · obtain rfl : i = a := by omega
          have hL : (tids (ts.take i)).length = k := by rw [List.take_of_length_le (by rw [HAL.out]; exact Nat.le_refl _), HID.out, HCM.out]
          rw [hL]
          clear hL
          go_wp2_with fail
          refine (open_to (b := false) (CWz.out.keep0 HUr.out).isC rfl).mono ?_
          rintro e_ w9 ⟨rfl, hw⟩
          subst hw
          go_wp2
          go_ret
          exact ⟨rfl, (CWz.out.upd.trans HUr.out (fun _ h => h.elim)).below0⟩
theorem arr2 {c : Array Value} (h0 : Oks [.int .u8, .int .u8] c.toList) : ∃ a b : Int, c = #[.int .u8 a, .int .u8 b] ∧ 0 ≤ a ∧ a ≤ 255 ∧ 0 ≤ b ∧ b ≤ 255 := by
  obtain ⟨v0, r0, e0, ⟨x, rfl, hx⟩, h1⟩ := h0.cons
  obtain ⟨v1, r1, e1, ⟨y, rfl, hy⟩, h2⟩ := h1.cons
  have := h2.nil
  subst this
  subst e1
  simp only [Lit.wf, Bool.and_eq_true, decide_eq_true_eq] at hx hy
  refine ⟨x, y, ?_, hx.1, hx.2, hy.1, hy.2⟩
  cases c
  simp_all
theorem conce_walk {w : World} (c0 : Array Value) (w0 : Oks [.int .u8, .int .u8] c0.toList) (A9 : Option Addr) (len9 cap9 : Nat) (L9 : List (List Value)) (hL9 : L9.length = len9) (hlc9 : len9 ≤ cap9) (hm9 : cap9 ≤ maxLen) (hn9 : A9 = none → len9 = 0 ∧ cap9 = 0) (hok9 : ∀ row ∈ L9, Oks d4s row) (hr9 : Rows w A9 4 L9) :
    Calls Try.prog 4 #[.agg c0, .slice A9 len9 cap9] w fun e w' => e = .returned (.bool true) ∧ Below w.heap.size w w' := by
  obtain ⟨l, hl, hwf, hs⟩ := sl_rows (enc := d4) d4_len (by decide) d4_dec hL9 hlc9 hm9 hn9 hok9 hr9
  unfold maxLen at hm9
  obtain ⟨a0, a1, rfl, h0, h1, h2, h3⟩ := arr2 w0
  exact conce_any A9 len9 cap9 l hl (by omega) hwf a0 a1 h0 h1 h2 h3 w hs
end Go.Proofs.Ytnpecnljibeddaa
