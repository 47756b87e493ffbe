/- CollPlays. -/
import Derived.Test.YtnpecnljibeddaaAw
import Derived.Test.YtnpecnljibeddaaDd
import Derived.LoopTactic
import Derived.Test.YtnpecnljibeddaaPd
import Derived.BigQuiet
import Derived.Deep.QuietTactic
namespace Go.Proofs.Ytnpecnljibeddaa
open Go.RowKit
attribute [local go_sem ↓] Go.wp_at_zero Go.wp_at_succ
set_option linter.unusedVariables false
set_option linter.unusedSimpArgs false

/-- Nothing happened. -/
abbrev zs : Array Value := #[.bool false, .bool false, .int .u64 0, .slice none 0 0, .slice none 0 0]
theorem cadd_blen (win most : Int) (s : CSt) (now id arg : Int) : (cadd win most s now id arg).2.2.2.2.1.length ≤ cargs s + 1 ∧ (cadd win most s now id arg).2.2.2.2.2.length ≤ cmem s + 1 := by
  unfold cadd
  split
  · unfold cput
    split <;> simp [cargs, cmem]
  · unfold cput
    split
    · exact ⟨badd_len1 _ _ _ _ _, badd_len2 _ _ _ _ _⟩
    · simp [cargs, cmem]
theorem cexp_blen (s : CSt) (now : Int) : (cexp s now).2.1.1.length ≤ cargs s ∧ (cexp s now).2.1.2.length ≤ cmem s := by
  unfold cexp
  split
  · simp [cargs, cmem]
  · split <;> simp [cargs, cmem]
set_option maxRecDepth 100000 in
set_option maxHeartbeats 4000000 in
theorem cplays_any (win most : Int) (hwin : W64 win) (L : Option Addr) (len cap : Nat) (l : List D4) (hl : l.length = len) (hm : len ≤ 9223372036854775807) (hwf : Wd l) (w : World) (hs : Sl w L len cap (fl d4 l)) :
    Calls Try.prog 3 #[.int .u64 win, .int .i64 most, .slice L len cap] w fun e w' => e = .returned (.bool true) ∧ Below w.heap.size w w' := by
  have HL := Lib.hid hl
  have HS := Lib.hid hs
  have HWF := Lib.hid hwf
  clear hl hs hwf
  have HW := Lib.hid hwin
  clear hwin
  go_enter Try.func3, Try.ntmps3
  go_wp2_with fail
  refine (awake_any _).mono ?_
  rintro e_ w0 ⟨rfl, hd⟩
  have HU0 := Lib.hid (Upd.of_below hd (fun _ => False))
  clear hd
  go_wp2_with fail
  by_cases hok : cok win most
  · have HD := Lib.hid (decide_eq_true hok)
    refine (new_yes hok _).mono ?_
    rintro e_ w1 ⟨g, rfl, hi, hg, hd⟩
    have CW1 := Lib.hid (CW.start hi HU0.out hg hd)
    clear hi hg hd HU0 hok
    go_wp2_with fail
    refine (rnew_to HD.out _).mono ?_
    rintro e_ w2 ⟨rfl, hd⟩
    have CW2 := Lib.hid (CW1.out.keep0 (Upd.of_below hd _))
    clear hd CW1
    obtain ⟨gx, hgx⟩ : ∃ gx, w2.heap.size = gx := ⟨_, rfl⟩
    have HGX := Lib.hid hgx
    go_wp2_with fail
    go_loopw [11, 12] (fun nv iv wr => ∃ (k : Nat) (F : Nat → Prop) (p : Option Nat) (s : CSt) (e : Int) (A : Option Addr) (n c : Nat) (M : Option Addr) (m d : Nat) (now : Int), k ≤ len ∧ k ≤ 100 ∧ iv = .int .i64 k ∧ nv = .int .u64 now ∧ Hid (W64 now) ∧ Hid (cmem s ≤ k ∧ cargs s ≤ k) ∧ Hid (CW w wr F g p win most s) ∧ Hid (RIs wr F s e A n c M m d) ∧ Hid (Blk wr gx 32 #[.int .u64 win, .int .i64 most, .bool (s).isSome, .int .u64 e, .slice A n c, .slice M m d]) ∧ Hid (F gx)) (fun _ iv _ => 100 - (intOf iv).toNat)
    case atStart =>
      subst hgx
      exact ⟨0, _, none, none, 0, none, 0, 0, none, 0, 0, 0, by omega, by omega, rfl, rfl, Lib.hid ⟨by omega, by omega⟩, Lib.hid (by simp [cmem, cargs]), Lib.hid (CW2.out.grow ((Upd.refl (fun _ => False) w2).alloc _) (pl_new' w2 _) (fun k hk => .inl hk)), Lib.hid (RIs.zero _ _ _), Lib.hid (Blk.new _ _ _), Lib.hid (.inr rfl)⟩
    case round =>
      obtain ⟨k, F, p, s, e, A, n, c, M, m, d, now, hk, hk2, rfl, rfl, HN, HCM, CWr, RIr, BXr, GXr⟩ := hrel
      by_cases hlt1 : k < len
      · by_cases hlt2 : k < 100
        · skip
          obtain ⟨x, hx⟩ : ∃ x, l[k]? = some x := ⟨l[k]'(by rw [HL.out]; exact hlt1), List.getElem?_eq_getElem _⟩
          have hxw := HWF.out x (List.mem_of_getElem? hx)
          have HXW : Hid (W64 x.2.2.2) := Lib.hid hxw
          have HX := Lib.hid hx
          obtain ⟨b, of, e, hb, hc⟩ := (CWr.out.old HS.out).sl.row d4_len (by decide) hx
          obtain ⟨b0, of0, e0, hb0, hc0⟩ := HS.out.row d4_len (by decide) hx
          rw [e] at e0
          injection e0 with e0
          injection e0 with e1 e2
          subst e1 e2 e
          have f0 := hc 0 _ rfl
          have f1 := hc 1 _ rfl
          have f2 := hc 2 _ rfl
          have f3 := hc 3 _ rfl
          simp only [← Nat.add_assoc, Nat.add_zero] at f0 f1 f2 f3
          have HB0 : Hid (∀ W, Upd (fun _ => False) w W → (∀ j v, (d4 x)[j]? = some v → W.cell? ⟨b, of + (k * 4 + j), none⟩ = some v)) := Lib.hid (fun W hu j v hv => (hu.cellq (p := ⟨b, of + (k * 4 + j), none⟩) hb0 (fun h => h)).trans (hc0 j v hv))
          obtain ⟨kd, id, arg, t⟩ := x
          simp only at HXW
          replace f0 : wr.cell? ⟨b, of + k * 4, none⟩ = some (.int .i64 kd) := f0
          replace f1 : wr.cell? ⟨b, of + k * 4 + 1, none⟩ = some (.int .i64 id) := f1
          replace f2 : wr.cell? ⟨b, of + k * 4 + 2, none⟩ = some (.int .i64 arg) := f2
          replace f3 : wr.cell? ⟨b, of + k * 4 + 3, none⟩ = some (.int .u64 t) := f3
          have i0 : (0 : Int) ≤ (k : Int) := Int.natCast_nonneg _
          have i1 : (k : Int) < (len : Int) := by omega
          have i2 : (k : Int) < 100 := by omega
          clear hx hxw hc hc0
          obtain ⟨now2, hnow2⟩ : ∃ z, sat now t = z := ⟨_, rfl⟩
          have HN2 : Hid (W64 now2) := Lib.hid (hnow2 ▸ sat_w HN.out HXW.out)
          go_wp2_with fail
          refine (radd01_to HN.out HXW.out hnow2 _).mono ?_
          rintro e_ w3 ⟨rfl, rfl⟩
          clear hnow2
          by_cases hkd : kd = 1
          · subst hkd
            skip
            obtain ⟨s', op, rd, due, bb, hadd⟩ : ∃ s' op rd due bb, cadd win most s now2 id arg = (s', op, rd, due, bb) := ⟨_, _, _, _, _, rfl⟩
            have HMM : Hid (cmem s' ≤ k + 1 ∧ cargs s' ≤ k + 1) := Lib.hid (by
              have h := cadd_mem win most s now2 id arg
              rw [hadd] at h
              have := HCM.out
              simp only at h
              omega)
            have HBL : Hid (bb.1.length ≤ 1000 ∧ bb.2.length ≤ 1000) := Lib.hid (by
              have h := cadd_blen win most s now2 id arg
              rw [hadd] at h
              have := HCM.out
              simp only at h
              omega)
            have HADD := Lib.hid hadd
            obtain ⟨nb, hnb⟩ : ∃ x, bb.1.length = x := ⟨_, rfl⟩
            obtain ⟨mb, hmb⟩ : ∃ x, bb.2.length = x := ⟨_, rfl⟩
            have HBA : Hid (nb ≤ 1000) := Lib.hid (hnb ▸ HBL.out.1)
            have HBM : Hid (mb ≤ 1000) := Lib.hid (hmb ▸ HBL.out.2)
            have HNB := Lib.hid hnb
            have HMB := Lib.hid hmb
            have hcm9 : cmem s ≤ 900 := by have := HCM.out; omega
            have hca9 : cargs s ≤ 900 := by have := HCM.out; omega
            clear hadd hnb hmb
            have RA := Lib.hid RIr.out.ka
            have RM := Lib.hid RIr.out.km
            have REL : Hid ((∀ b e', s = some (b, e') → e = e') ∧ (rcs s).1.length = n ∧ (rcs s).2.length = m) := Lib.hid ⟨RIr.out.en, RIr.out.ln, RIr.out.lm⟩
            have BX := BXr
            have GX := GXr
            clear RIr BXr GXr
            go_wp2_with fail
            refine (show PLift ?Cut → _ from fun hcut => ?main) ⟨?pf⟩
            case main =>
              go_region_held3 (fun w' => w'.cell? ⟨b, of + k * 4 + 1, none⟩ = some (.int .i64 id) ∧ w'.cell? ⟨b, of + k * 4 + 2, none⟩ = some (.int .i64 arg)) (go_keep) (first | (go_at_call 13; have CWa := Lib.hid (CWr.out.grow (F' := (Pl F wr.heap.size)) (((Upd.refl (fun _ => False) wr).alloc (.cells zs 42)).drew) (pl_new wr (.cells zs 42)) (fun _ h => .inl h)); have BAa := Lib.hid ((Blk.new wr zs 42).drew); have RAa := Lib.hid (RA.out.grow (((Upd.refl (fun _ => False) wr).alloc (.cells zs 42)).drew) (pl_new wr (.cells zs 42))); have RMa := Lib.hid (RM.out.grow (((Upd.refl (fun _ => False) wr).alloc (.cells zs 42)).drew) (pl_new wr (.cells zs 42))); have BXa := Lib.hid (BX.out.upd (((Upd.refl (fun _ => False) wr).alloc (.cells zs 42)).drew) (fun h => h)); have GXa : Hid ((Pl F wr.heap.size) (gx)) := Lib.hid (.inl GX.out); (with_reducible refine (cadd_to (n := nb) (m := mb) HADD.out HNB.out HMB.out HW.out (fun _ => HN2.out) hcm9 hca9 CWa.out.isC).mono ?_); rintro e_ wC ⟨p6, A6, c6, M6, d6, rfl, hp⟩; have CWC := Lib.hid (CWa.out.next hp); have BAC := Lib.hid (CWa.out.blk hp BAa.out (by decide) (by decide)); have KAC : Hid (Kp wC (Nx (Pl F wr.heap.size) p6) A6 nb c6 (nums bb.1)) := Lib.hid hp.ka; have KMC : Hid (Kp wC (Nx (Pl F wr.heap.size) p6) M6 mb d6 (prs bb.2)) := Lib.hid hp.km; have RAC : Hid (Kp wC (Nx (Pl F wr.heap.size) p6) A n c (nums (rcs s).1)) := Lib.hid (CWa.out.kp hp RAa.out); have RMC : Hid (Kp wC (Nx (Pl F wr.heap.size) p6) M m d (prs (rcs s).2)) := Lib.hid (CWa.out.kp hp RMa.out); have BXC := Lib.hid (CWa.out.blk hp BXa.out (by decide) (by decide)); have GXC : Hid ((Nx (Pl F wr.heap.size) p6) (gx)) := Lib.hid (.inl GXa.out); have g1 : wC.cell? ⟨b, of + k * 4 + 1, none⟩ = some (.int .i64 id) := HB0.out wC CWC.out.upd 1 _ rfl; have g2 : wC.cell? ⟨b, of + k * 4 + 2, none⟩ = some (.int .i64 arg) := HB0.out wC CWC.out.upd 2 _ rfl; have y1 := BAC.out.lt; have y2 := BAC.out.frz; have y3 : ∀ (W : World) (i j : Nat) (u : Value), (W.setCell ⟨wr.heap.size, j, none⟩ u).cell? ⟨b, i, none⟩ = W.cell? ⟨b, i, none⟩ := cell_far (Nat.ne_of_lt hb); have z0 : wC.cell? ⟨wr.heap.size, 0, none⟩ = some (.bool false) := BAC.out.cell 0; have z1 : wC.cell? ⟨wr.heap.size, 1, none⟩ = some (.bool false) := BAC.out.cell 1; have z2 : wC.cell? ⟨wr.heap.size, 2, none⟩ = some (.int .u64 0) := BAC.out.cell 2; have z3 : wC.cell? ⟨wr.heap.size, 3, none⟩ = some (.slice none 0 0) := BAC.out.cell 3; have z4 : wC.cell? ⟨wr.heap.size, 4, none⟩ = some (.slice none 0 0) := BAC.out.cell 4; clear hp RAa RMa BXa GXa) | (go_at_call 13; have CWa := Lib.hid (CWr.out.keep0 ((Upd.refl (fun _ => False) wr).drew)); have RAa := Lib.hid (RA.out.grow ((Upd.refl (fun _ => False) wr).drew) (fun k hk => .inl hk)); have RMa := Lib.hid (RM.out.grow ((Upd.refl (fun _ => False) wr).drew) (fun k hk => .inl hk)); have BXa := Lib.hid (BX.out.upd ((Upd.refl (fun _ => False) wr).drew) (fun h => h)); have GXa : Hid (F (gx)) := Lib.hid (GX.out); (with_reducible refine (cadd_to (n := nb) (m := mb) HADD.out HNB.out HMB.out HW.out (fun _ => HN2.out) hcm9 hca9 CWa.out.isC).mono ?_); rintro e_ wC ⟨p6, A6, c6, M6, d6, rfl, hp⟩; have CWC := Lib.hid (CWa.out.next hp); have KAC : Hid (Kp wC (Nx F p6) A6 nb c6 (nums bb.1)) := Lib.hid hp.ka; have KMC : Hid (Kp wC (Nx F p6) M6 mb d6 (prs bb.2)) := Lib.hid hp.km; have RAC : Hid (Kp wC (Nx F p6) A n c (nums (rcs s).1)) := Lib.hid (CWa.out.kp hp RAa.out); have RMC : Hid (Kp wC (Nx F p6) M m d (prs (rcs s).2)) := Lib.hid (CWa.out.kp hp RMa.out); have BXC := Lib.hid (CWa.out.blk hp BXa.out (by decide) (by decide)); have GXC : Hid ((Nx F p6) (gx)) := Lib.hid (.inl GXa.out); have g1 : wC.cell? ⟨b, of + k * 4 + 1, none⟩ = some (.int .i64 id) := HB0.out wC CWC.out.upd 1 _ rfl; have g2 : wC.cell? ⟨b, of + k * 4 + 2, none⟩ = some (.int .i64 arg) := HB0.out wC CWC.out.upd 2 _ rfl; clear hp RAa RMa BXa GXa))
              all_goals first
                | (rename_i hh_
                   have CW6 : Hid (CW w (wC.alloc (.cells #[.bool op, .bool rd, .int .u64 due, .slice A6 nb c6, .slice M6 mb d6] 42)) (Pl (Nx F p6) wC.heap.size) g p6 win most (s')) := Lib.hid (CWC.out.grow ((Upd.refl (fun _ => False) wC).alloc (.cells #[.bool op, .bool rd, .int .u64 due, .slice A6 nb c6, .slice M6 mb d6] 42)) (pl_new' wC (.cells #[.bool op, .bool rd, .int .u64 due, .slice A6 nb c6, .slice M6 mb d6] 42)) (fun _ h => .inl h))
                   have KA6 : Hid (Kp (wC.alloc (.cells #[.bool op, .bool rd, .int .u64 due, .slice A6 nb c6, .slice M6 mb d6] 42)) (Pl (Nx F p6) wC.heap.size) A6 nb c6 (nums bb.1)) := Lib.hid (KAC.out.grow ((Upd.refl (fun _ => False) wC).alloc (.cells #[.bool op, .bool rd, .int .u64 due, .slice A6 nb c6, .slice M6 mb d6] 42)) (pl_new' wC (.cells #[.bool op, .bool rd, .int .u64 due, .slice A6 nb c6, .slice M6 mb d6] 42)))
                   have KM6 : Hid (Kp (wC.alloc (.cells #[.bool op, .bool rd, .int .u64 due, .slice A6 nb c6, .slice M6 mb d6] 42)) (Pl (Nx F p6) wC.heap.size) M6 mb d6 (prs bb.2)) := Lib.hid (KMC.out.grow ((Upd.refl (fun _ => False) wC).alloc (.cells #[.bool op, .bool rd, .int .u64 due, .slice A6 nb c6, .slice M6 mb d6] 42)) (pl_new' wC (.cells #[.bool op, .bool rd, .int .u64 due, .slice A6 nb c6, .slice M6 mb d6] 42)))
                   have B6 : Hid (Blk (wC.alloc (.cells #[.bool op, .bool rd, .int .u64 due, .slice A6 nb c6, .slice M6 mb d6] 42)) wC.heap.size 42 #[.bool op, .bool rd, .int .u64 due, .slice A6 nb c6, .slice M6 mb d6]) := Lib.hid (Blk.new wC #[.bool op, .bool rd, .int .u64 due, .slice A6 nb c6, .slice M6 mb d6] 42)
                   have RA6 : Hid (Kp (wC.alloc (.cells #[.bool op, .bool rd, .int .u64 due, .slice A6 nb c6, .slice M6 mb d6] 42)) (Pl (Nx F p6) wC.heap.size) A n c (nums (rcs s).1)) := Lib.hid (RAC.out.grow ((Upd.refl (fun _ => False) wC).alloc (.cells #[.bool op, .bool rd, .int .u64 due, .slice A6 nb c6, .slice M6 mb d6] 42)) (pl_new' wC (.cells #[.bool op, .bool rd, .int .u64 due, .slice A6 nb c6, .slice M6 mb d6] 42)))
                   have RM6 : Hid (Kp (wC.alloc (.cells #[.bool op, .bool rd, .int .u64 due, .slice A6 nb c6, .slice M6 mb d6] 42)) (Pl (Nx F p6) wC.heap.size) M m d (prs (rcs s).2)) := Lib.hid (RMC.out.grow ((Upd.refl (fun _ => False) wC).alloc (.cells #[.bool op, .bool rd, .int .u64 due, .slice A6 nb c6, .slice M6 mb d6] 42)) (pl_new' wC (.cells #[.bool op, .bool rd, .int .u64 due, .slice A6 nb c6, .slice M6 mb d6] 42)))
                   have BX6 : Hid (Blk (wC.alloc (.cells #[.bool op, .bool rd, .int .u64 due, .slice A6 nb c6, .slice M6 mb d6] 42)) (gx) 32 #[.int .u64 win, .int .i64 most, .bool (s).isSome, .int .u64 e, .slice A n c, .slice M m d]) := Lib.hid (BXC.out.alloc _)
                   have GX6 : Hid ((Pl (Nx F p6) wC.heap.size) (gx)) := Lib.hid (.inl GXC.out)
                   have PF6 : Hid ((Pl (Nx F p6) wC.heap.size) wC.heap.size) := Lib.hid (.inr rfl)
                   clear hh_ CWC KAC KMC CWa g1 g2 RAC RMC BXC GXC
                   generalize (wC.alloc (.cells #[.bool op, .bool rd, .int .u64 due, .slice A6 nb c6, .slice M6 mb d6] 42)) = W6 at CW6 KA6 KM6 B6 RA6 RM6 BX6 ⊢
                   generalize (Pl (Nx F p6) wC.heap.size) = F6 at CW6 KA6 KM6 PF6 RA6 RM6 GX6
                   generalize wC.heap.size = ga at B6 PF6 ⊢
                   revert PF6
                   revert GX6
                   revert BX6
                   revert RM6
                   revert RA6
                   revert B6
                   revert KM6
                   revert KA6
                   revert CW6
                   revert ga F6 W6 d6 M6 c6 A6 p6
                   exact hcut.down)
                | (rename_i hh_
                   have hn_ : ∀ k, Fr2 g p6 k → ¬ At wr.heap.size k := fun k hk h1 => CWC.out.isC.ne_blk BAC.out (by decide) (by decide) (show Fr2 g p6 wr.heap.size from h1 ▸ hk)
                   have hw_ : Upd (At wr.heap.size) wC (((((wC.setCell ⟨wr.heap.size, 0, none⟩ (.bool op)).setCell ⟨wr.heap.size, 1, none⟩ (.bool rd)).setCell ⟨wr.heap.size, 2, none⟩ (.int .u64 due)).setCell ⟨wr.heap.size, 3, none⟩ (.slice A6 nb c6)).setCell ⟨wr.heap.size, 4, none⟩ (.slice M6 mb d6)) := Upd.w5 (.bool op) (.bool rd) (.int .u64 due) (.slice A6 nb c6) (.slice M6 mb d6) (Upd.refl _ _) (.inl rfl)
                   have CW6 : Hid (CW w (((((wC.setCell ⟨wr.heap.size, 0, none⟩ (.bool op)).setCell ⟨wr.heap.size, 1, none⟩ (.bool rd)).setCell ⟨wr.heap.size, 2, none⟩ (.int .u64 due)).setCell ⟨wr.heap.size, 3, none⟩ (.slice A6 nb c6)).setCell ⟨wr.heap.size, 4, none⟩ (.slice M6 mb d6)) (Nx (Pl F wr.heap.size) p6) g p6 win most (s')) := Lib.hid (CWC.out.write hw_ (fun k hk => .inl (.inr hk)) hn_)
                   have KA6 : Hid (Kp (((((wC.setCell ⟨wr.heap.size, 0, none⟩ (.bool op)).setCell ⟨wr.heap.size, 1, none⟩ (.bool rd)).setCell ⟨wr.heap.size, 2, none⟩ (.int .u64 due)).setCell ⟨wr.heap.size, 3, none⟩ (.slice A6 nb c6)).setCell ⟨wr.heap.size, 4, none⟩ (.slice M6 mb d6)) (Nx (Pl F wr.heap.size) p6) A6 nb c6 (nums bb.1)) := Lib.hid (KAC.out.keep hw_ (fun k hk => .inl (.inr hk)))
                   have KM6 : Hid (Kp (((((wC.setCell ⟨wr.heap.size, 0, none⟩ (.bool op)).setCell ⟨wr.heap.size, 1, none⟩ (.bool rd)).setCell ⟨wr.heap.size, 2, none⟩ (.int .u64 due)).setCell ⟨wr.heap.size, 3, none⟩ (.slice A6 nb c6)).setCell ⟨wr.heap.size, 4, none⟩ (.slice M6 mb d6)) (Nx (Pl F wr.heap.size) p6) M6 mb d6 (prs bb.2)) := Lib.hid (KMC.out.keep hw_ (fun k hk => .inl (.inr hk)))
                   have B6 : Hid (Blk (((((wC.setCell ⟨wr.heap.size, 0, none⟩ (.bool op)).setCell ⟨wr.heap.size, 1, none⟩ (.bool rd)).setCell ⟨wr.heap.size, 2, none⟩ (.int .u64 due)).setCell ⟨wr.heap.size, 3, none⟩ (.slice A6 nb c6)).setCell ⟨wr.heap.size, 4, none⟩ (.slice M6 mb d6)) wr.heap.size 42 #[.bool op, .bool rd, .int .u64 due, .slice A6 nb c6, .slice M6 mb d6]) := Lib.hid (Blk.w5 (.bool op) (.bool rd) (.int .u64 due) (.slice A6 nb c6) (.slice M6 mb d6) BAC.out)
                   have RA6 : Hid (Kp (((((wC.setCell ⟨wr.heap.size, 0, none⟩ (.bool op)).setCell ⟨wr.heap.size, 1, none⟩ (.bool rd)).setCell ⟨wr.heap.size, 2, none⟩ (.int .u64 due)).setCell ⟨wr.heap.size, 3, none⟩ (.slice A6 nb c6)).setCell ⟨wr.heap.size, 4, none⟩ (.slice M6 mb d6)) (Nx (Pl F wr.heap.size) p6) A n c (nums (rcs s).1)) := Lib.hid (RAC.out.keep hw_ (fun k hk => .inl (.inr hk)))
                   have RM6 : Hid (Kp (((((wC.setCell ⟨wr.heap.size, 0, none⟩ (.bool op)).setCell ⟨wr.heap.size, 1, none⟩ (.bool rd)).setCell ⟨wr.heap.size, 2, none⟩ (.int .u64 due)).setCell ⟨wr.heap.size, 3, none⟩ (.slice A6 nb c6)).setCell ⟨wr.heap.size, 4, none⟩ (.slice M6 mb d6)) (Nx (Pl F wr.heap.size) p6) M m d (prs (rcs s).2)) := Lib.hid (RMC.out.keep hw_ (fun k hk => .inl (.inr hk)))
                   have BX6 : Hid (Blk (((((wC.setCell ⟨wr.heap.size, 0, none⟩ (.bool op)).setCell ⟨wr.heap.size, 1, none⟩ (.bool rd)).setCell ⟨wr.heap.size, 2, none⟩ (.int .u64 due)).setCell ⟨wr.heap.size, 3, none⟩ (.slice A6 nb c6)).setCell ⟨wr.heap.size, 4, none⟩ (.slice M6 mb d6)) (gx) 32 #[.int .u64 win, .int .i64 most, .bool (s).isSome, .int .u64 e, .slice A n c, .slice M m d]) := Lib.hid (Blk.w5f (.bool op) (.bool rd) (.int .u64 due) (.slice A6 nb c6) (.slice M6 mb d6) BXC.out (Blk.ne BXC.out BAC.out (by decide)))
                   have GX6 : Hid ((Nx (Pl F wr.heap.size) p6) (gx)) := Lib.hid (GXC.out)
                   have PF6 : Hid ((Nx (Pl F wr.heap.size) p6) wr.heap.size) := Lib.hid (.inl (.inr rfl))
                   clear hh_ CWC KAC KMC CWa g1 g2 RAC RMC BXC GXC BAC hn_ hw_ y1 y2 z0 z1 z2 z3 z4
                   generalize (((((wC.setCell ⟨wr.heap.size, 0, none⟩ (.bool op)).setCell ⟨wr.heap.size, 1, none⟩ (.bool rd)).setCell ⟨wr.heap.size, 2, none⟩ (.int .u64 due)).setCell ⟨wr.heap.size, 3, none⟩ (.slice A6 nb c6)).setCell ⟨wr.heap.size, 4, none⟩ (.slice M6 mb d6)) = W6 at CW6 KA6 KM6 B6 RA6 RM6 BX6 ⊢
                   generalize (Nx (Pl F wr.heap.size) p6) = F6 at CW6 KA6 KM6 PF6 RA6 RM6 GX6
                   generalize wr.heap.size = ga at B6 PF6 ⊢
                   revert PF6
                   revert GX6
                   revert BX6
                   revert RM6
                   revert RA6
                   revert B6
                   revert KM6
                   revert KA6
                   revert CW6
                   revert ga F6 W6 d6 M6 c6 A6 p6
                   exact hcut.down)
            case pf =>
              intro p6 A6 c6 M6 d6 W6 F6 ga CW6 KA6 KM6 B6 RA6 RM6 BX6 GX6 PF6
              have RI6 : Hid (RIs W6.drew F6 s e A n c M m d) := Lib.hid ⟨RA6.out.keep0 (Upd.refl _ _).drew, RM6.out.keep0 (Upd.refl _ _).drew, REL.out.1, REL.out.2.1, REL.out.2.2⟩
              have HLT6 : Hid (∀ k, F6 k → k < W6.drew.heap.size) := Lib.hid CW6.out.isC.lt
              clear RA6 RM6 REL
              go_wp2_with fail
              refine wp_region_invD (by kernel_rfl) (by kernel_rfl) (fun (j_ : Nat) => (match j_ with | 0 => some (.agg #[.int .u64 win, .int .i64 most, .bool (s).isSome, .int .u64 e, .slice A n c, .slice M m d]) | 1 => some (.int .u64 now2) | 2 => some (.slice (some ⟨b, of, none⟩) len cap) | 3 => some (.int .i64 (k : Int)) | 4 => some (.pointer (some ⟨b, of + k * 4, none⟩)) | 5 => some (.pointer (some ⟨b, of + k * 4 + 1, none⟩)) | 6 => some (.int .i64 id) | 7 => some (.slice (some ⟨b, of, none⟩) len cap) | 8 => some (.int .i64 (k : Int)) | 9 => some (.pointer (some ⟨b, of + k * 4, none⟩)) | 10 => some (.pointer (some ⟨b, of + k * 4 + 2, none⟩)) | 11 => some (.int .i64 arg) | _ => none : Option Value)) (fun D r w_ => ∃ v, P15 W6.drew F6 win most s' op rd due bb nb mb (D 12) (D 13) (D 14) (D 15) (D 16) (D 17) (D 18) (D 19) (r 87) (r 74) (r 88) (r 89) (r 14) (r 15) w_ v) ?_ ?_ ?_ ?_ ?_
              · exact ⟨_, P15.zero⟩
              · intro D D' r r' w_ hD hr h
                obtain ⟨v, h⟩ := h
                refine ⟨v, ?_⟩
                rw [hD 12 rfl, hD 13 rfl, hD 14 rfl, hD 15 rfl, hD 16 rfl, hD 17 rfl, hD 18 rfl, hD 19 rfl, hr 12 _ 87 rfl rfl rfl, hr 13 _ 74 rfl rfl rfl, hr 14 _ 88 rfl rfl rfl, hr 15 _ 89 rfl rfl rfl, hr 16 _ 14 rfl rfl rfl, hr 17 _ 15 rfl rfl rfl]
                exact h
              · intro j o_ v_ ho hV D a w' hF hP hdep
                have hjn : j < 20 := by
                  have := (Array.getElem?_eq_some_iff.1 ho).1
                  simp at this
                  omega
                rcases j with _ | _ | _ | _ | _ | _ | _ | _ | _ | _ | _ | _ | _ | _ | _ | _ | _ | _ | _ | _ | j
                all_goals (try (exfalso; omega))
                · simp at ho
                  subst ho
                  have hV := Option.some.inj (show some (.agg #[.int .u64 win, .int .i64 most, .bool (s).isSome, .int .u64 e, .slice A n c, .slice M m d]) = some v_ from hV)
                  subst hV
                  obtain ⟨v, h⟩ := hP
                  have hX := BX6.out.drew.upd h.upd (fun h => h)
                  have x0_ : w'.cell? ⟨gx, 0, none⟩ = some (.int .u64 win) := hX.cell 0
                  have x1_ : w'.cell? ⟨gx, 1, none⟩ = some (.int .i64 most) := hX.cell 1
                  have x2_ : w'.cell? ⟨gx, 2, none⟩ = some (.bool (s).isSome) := hX.cell 2
                  have x3_ : w'.cell? ⟨gx, 3, none⟩ = some (.int .u64 e) := hX.cell 3
                  have x4_ : w'.cell? ⟨gx, 4, none⟩ = some (.slice A n c) := hX.cell 4
                  have x5_ : w'.cell? ⟨gx, 5, none⟩ = some (.slice M m d) := hX.cell 5
                  have xl_ := hX.lt
                  have hu_ := (CW6.out.upd.drew).trans h.upd (fun _ h => h.elim)
                  have q1_ : w'.cell? ⟨b, of + k * 4 + 1, none⟩ = some (.int .i64 id) := HB0.out w' hu_ 1 _ rfl
                  have q2_ : w'.cell? ⟨b, of + k * 4 + 2, none⟩ = some (.int .i64 arg) := HB0.out w' hu_ 2 _ rfl
                  have s2_ : a.tmps.getD 2 undef = .slice (some ⟨b, of, none⟩) len cap := hF.keep 2 (by kernel_rfl)
                  have s12_ : a.tmps.getD 12 undef = .int .i64 (k : Int) := hF.keep 12 (by kernel_rfl)
                  have s11_ : a.tmps.getD 11 undef = .int .u64 now2 := hF.keep 11 (by kernel_rfl)
                  have s9_ : a.tmps.getD 9 undef = .pointer (some ⟨gx, 0, none⟩) := hF.keep 9 (by kernel_rfl)
                  try clear hP
                  clear hdep
                  unfold Oper.wp
                  go_simp
                  first | done | exact ⟨rfl, rfl⟩ | rfl
                · simp at ho
                  subst ho
                  have hV := Option.some.inj (show some (.int .u64 now2) = some v_ from hV)
                  subst hV
                  have s2_ : a.tmps.getD 2 undef = .slice (some ⟨b, of, none⟩) len cap := hF.keep 2 (by kernel_rfl)
                  have s12_ : a.tmps.getD 12 undef = .int .i64 (k : Int) := hF.keep 12 (by kernel_rfl)
                  have s11_ : a.tmps.getD 11 undef = .int .u64 now2 := hF.keep 11 (by kernel_rfl)
                  have s9_ : a.tmps.getD 9 undef = .pointer (some ⟨gx, 0, none⟩) := hF.keep 9 (by kernel_rfl)
                  try clear hP
                  clear hdep
                  unfold Oper.wp
                  go_simp
                  first | done | exact ⟨rfl, rfl⟩ | rfl
                · simp at ho
                  subst ho
                  have hV := Option.some.inj (show some (.slice (some ⟨b, of, none⟩) len cap) = some v_ from hV)
                  subst hV
                  have s2_ : a.tmps.getD 2 undef = .slice (some ⟨b, of, none⟩) len cap := hF.keep 2 (by kernel_rfl)
                  have s12_ : a.tmps.getD 12 undef = .int .i64 (k : Int) := hF.keep 12 (by kernel_rfl)
                  have s11_ : a.tmps.getD 11 undef = .int .u64 now2 := hF.keep 11 (by kernel_rfl)
                  have s9_ : a.tmps.getD 9 undef = .pointer (some ⟨gx, 0, none⟩) := hF.keep 9 (by kernel_rfl)
                  try clear hP
                  clear hdep
                  unfold Oper.wp
                  go_simp
                  first | done | exact ⟨rfl, rfl⟩ | rfl
                · simp at ho
                  subst ho
                  have hV := Option.some.inj (show some (.int .i64 (k : Int)) = some v_ from hV)
                  subst hV
                  have s2_ : a.tmps.getD 2 undef = .slice (some ⟨b, of, none⟩) len cap := hF.keep 2 (by kernel_rfl)
                  have s12_ : a.tmps.getD 12 undef = .int .i64 (k : Int) := hF.keep 12 (by kernel_rfl)
                  have s11_ : a.tmps.getD 11 undef = .int .u64 now2 := hF.keep 11 (by kernel_rfl)
                  have s9_ : a.tmps.getD 9 undef = .pointer (some ⟨gx, 0, none⟩) := hF.keep 9 (by kernel_rfl)
                  try clear hP
                  clear hdep
                  unfold Oper.wp
                  go_simp
                  first | done | exact ⟨rfl, rfl⟩ | rfl
                · simp at ho
                  subst ho
                  have hV := Option.some.inj (show some (.pointer (some ⟨b, of + k * 4, none⟩)) = some v_ from hV)
                  subst hV
                  obtain ⟨v, h⟩ := hP
                  have hX := BX6.out.drew.upd h.upd (fun h => h)
                  have x0_ : w'.cell? ⟨gx, 0, none⟩ = some (.int .u64 win) := hX.cell 0
                  have x1_ : w'.cell? ⟨gx, 1, none⟩ = some (.int .i64 most) := hX.cell 1
                  have x2_ : w'.cell? ⟨gx, 2, none⟩ = some (.bool (s).isSome) := hX.cell 2
                  have x3_ : w'.cell? ⟨gx, 3, none⟩ = some (.int .u64 e) := hX.cell 3
                  have x4_ : w'.cell? ⟨gx, 4, none⟩ = some (.slice A n c) := hX.cell 4
                  have x5_ : w'.cell? ⟨gx, 5, none⟩ = some (.slice M m d) := hX.cell 5
                  have xl_ := hX.lt
                  have hu_ := (CW6.out.upd.drew).trans h.upd (fun _ h => h.elim)
                  have q1_ : w'.cell? ⟨b, of + k * 4 + 1, none⟩ = some (.int .i64 id) := HB0.out w' hu_ 1 _ rfl
                  have q2_ : w'.cell? ⟨b, of + k * 4 + 2, none⟩ = some (.int .i64 arg) := HB0.out w' hu_ 2 _ rfl
                  have s2_ : a.tmps.getD 2 undef = .slice (some ⟨b, of, none⟩) len cap := hF.keep 2 (by kernel_rfl)
                  have s12_ : a.tmps.getD 12 undef = .int .i64 (k : Int) := hF.keep 12 (by kernel_rfl)
                  have s11_ : a.tmps.getD 11 undef = .int .u64 now2 := hF.keep 11 (by kernel_rfl)
                  have s9_ : a.tmps.getD 9 undef = .pointer (some ⟨gx, 0, none⟩) := hF.keep 9 (by kernel_rfl)
                  have f2_ : a.tmps.getD 77 undef = .slice (some ⟨b, of, none⟩) len cap := hF.val 2 _ _ _ (hdep ⟨2, .data⟩ (by simp) rfl) rfl rfl rfl
                  have f3_ : a.tmps.getD 78 undef = .int .i64 (k : Int) := hF.val 3 _ _ _ (hdep ⟨3, .data⟩ (by simp) rfl) rfl rfl rfl
                  try clear hP
                  clear hdep
                  unfold Oper.wp
                  go_simp
                  first | done | exact ⟨rfl, rfl⟩ | rfl
                · simp at ho
                  subst ho
                  have hV := Option.some.inj (show some (.pointer (some ⟨b, of + k * 4 + 1, none⟩)) = some v_ from hV)
                  subst hV
                  have s2_ : a.tmps.getD 2 undef = .slice (some ⟨b, of, none⟩) len cap := hF.keep 2 (by kernel_rfl)
                  have s12_ : a.tmps.getD 12 undef = .int .i64 (k : Int) := hF.keep 12 (by kernel_rfl)
                  have s11_ : a.tmps.getD 11 undef = .int .u64 now2 := hF.keep 11 (by kernel_rfl)
                  have s9_ : a.tmps.getD 9 undef = .pointer (some ⟨gx, 0, none⟩) := hF.keep 9 (by kernel_rfl)
                  have f4_ : a.tmps.getD 79 undef = .pointer (some ⟨b, of + k * 4, none⟩) := hF.val 4 _ _ _ (hdep ⟨4, .data⟩ (by simp) rfl) rfl rfl rfl
                  try clear hP
                  clear hdep
                  unfold Oper.wp
                  go_simp
                  first | done | exact ⟨rfl, rfl⟩ | rfl
                · simp at ho
                  subst ho
                  have hV := Option.some.inj (show some (.int .i64 id) = some v_ from hV)
                  subst hV
                  obtain ⟨v, h⟩ := hP
                  have hX := BX6.out.drew.upd h.upd (fun h => h)
                  have x0_ : w'.cell? ⟨gx, 0, none⟩ = some (.int .u64 win) := hX.cell 0
                  have x1_ : w'.cell? ⟨gx, 1, none⟩ = some (.int .i64 most) := hX.cell 1
                  have x2_ : w'.cell? ⟨gx, 2, none⟩ = some (.bool (s).isSome) := hX.cell 2
                  have x3_ : w'.cell? ⟨gx, 3, none⟩ = some (.int .u64 e) := hX.cell 3
                  have x4_ : w'.cell? ⟨gx, 4, none⟩ = some (.slice A n c) := hX.cell 4
                  have x5_ : w'.cell? ⟨gx, 5, none⟩ = some (.slice M m d) := hX.cell 5
                  have xl_ := hX.lt
                  have hu_ := (CW6.out.upd.drew).trans h.upd (fun _ h => h.elim)
                  have q1_ : w'.cell? ⟨b, of + k * 4 + 1, none⟩ = some (.int .i64 id) := HB0.out w' hu_ 1 _ rfl
                  have q2_ : w'.cell? ⟨b, of + k * 4 + 2, none⟩ = some (.int .i64 arg) := HB0.out w' hu_ 2 _ rfl
                  have s2_ : a.tmps.getD 2 undef = .slice (some ⟨b, of, none⟩) len cap := hF.keep 2 (by kernel_rfl)
                  have s12_ : a.tmps.getD 12 undef = .int .i64 (k : Int) := hF.keep 12 (by kernel_rfl)
                  have s11_ : a.tmps.getD 11 undef = .int .u64 now2 := hF.keep 11 (by kernel_rfl)
                  have s9_ : a.tmps.getD 9 undef = .pointer (some ⟨gx, 0, none⟩) := hF.keep 9 (by kernel_rfl)
                  have f5_ : a.tmps.getD 80 undef = .pointer (some ⟨b, of + k * 4 + 1, none⟩) := hF.val 5 _ _ _ (hdep ⟨5, .data⟩ (by simp) rfl) rfl rfl rfl
                  try clear hP
                  clear hdep
                  unfold Oper.wp
                  go_simp
                  first | done | exact ⟨rfl, rfl⟩ | rfl
                · simp at ho
                  subst ho
                  have hV := Option.some.inj (show some (.slice (some ⟨b, of, none⟩) len cap) = some v_ from hV)
                  subst hV
                  have s2_ : a.tmps.getD 2 undef = .slice (some ⟨b, of, none⟩) len cap := hF.keep 2 (by kernel_rfl)
                  have s12_ : a.tmps.getD 12 undef = .int .i64 (k : Int) := hF.keep 12 (by kernel_rfl)
                  have s11_ : a.tmps.getD 11 undef = .int .u64 now2 := hF.keep 11 (by kernel_rfl)
                  have s9_ : a.tmps.getD 9 undef = .pointer (some ⟨gx, 0, none⟩) := hF.keep 9 (by kernel_rfl)
                  try clear hP
                  clear hdep
                  unfold Oper.wp
                  go_simp
                  first | done | exact ⟨rfl, rfl⟩ | rfl
                · simp at ho
                  subst ho
                  have hV := Option.some.inj (show some (.int .i64 (k : Int)) = some v_ from hV)
                  subst hV
                  have s2_ : a.tmps.getD 2 undef = .slice (some ⟨b, of, none⟩) len cap := hF.keep 2 (by kernel_rfl)
                  have s12_ : a.tmps.getD 12 undef = .int .i64 (k : Int) := hF.keep 12 (by kernel_rfl)
                  have s11_ : a.tmps.getD 11 undef = .int .u64 now2 := hF.keep 11 (by kernel_rfl)
                  have s9_ : a.tmps.getD 9 undef = .pointer (some ⟨gx, 0, none⟩) := hF.keep 9 (by kernel_rfl)
                  try clear hP
                  clear hdep
                  unfold Oper.wp
                  go_simp
                  first | done | exact ⟨rfl, rfl⟩ | rfl
                · simp at ho
                  subst ho
                  have hV := Option.some.inj (show some (.pointer (some ⟨b, of + k * 4, none⟩)) = some v_ from hV)
                  subst hV
                  obtain ⟨v, h⟩ := hP
                  have hX := BX6.out.drew.upd h.upd (fun h => h)
                  have x0_ : w'.cell? ⟨gx, 0, none⟩ = some (.int .u64 win) := hX.cell 0
                  have x1_ : w'.cell? ⟨gx, 1, none⟩ = some (.int .i64 most) := hX.cell 1
                  have x2_ : w'.cell? ⟨gx, 2, none⟩ = some (.bool (s).isSome) := hX.cell 2
                  have x3_ : w'.cell? ⟨gx, 3, none⟩ = some (.int .u64 e) := hX.cell 3
                  have x4_ : w'.cell? ⟨gx, 4, none⟩ = some (.slice A n c) := hX.cell 4
                  have x5_ : w'.cell? ⟨gx, 5, none⟩ = some (.slice M m d) := hX.cell 5
                  have xl_ := hX.lt
                  have hu_ := (CW6.out.upd.drew).trans h.upd (fun _ h => h.elim)
                  have q1_ : w'.cell? ⟨b, of + k * 4 + 1, none⟩ = some (.int .i64 id) := HB0.out w' hu_ 1 _ rfl
                  have q2_ : w'.cell? ⟨b, of + k * 4 + 2, none⟩ = some (.int .i64 arg) := HB0.out w' hu_ 2 _ rfl
                  have s2_ : a.tmps.getD 2 undef = .slice (some ⟨b, of, none⟩) len cap := hF.keep 2 (by kernel_rfl)
                  have s12_ : a.tmps.getD 12 undef = .int .i64 (k : Int) := hF.keep 12 (by kernel_rfl)
                  have s11_ : a.tmps.getD 11 undef = .int .u64 now2 := hF.keep 11 (by kernel_rfl)
                  have s9_ : a.tmps.getD 9 undef = .pointer (some ⟨gx, 0, none⟩) := hF.keep 9 (by kernel_rfl)
                  have f7_ : a.tmps.getD 82 undef = .slice (some ⟨b, of, none⟩) len cap := hF.val 7 _ _ _ (hdep ⟨7, .data⟩ (by simp) rfl) rfl rfl rfl
                  have f8_ : a.tmps.getD 83 undef = .int .i64 (k : Int) := hF.val 8 _ _ _ (hdep ⟨8, .data⟩ (by simp) rfl) rfl rfl rfl
                  try clear hP
                  clear hdep
                  unfold Oper.wp
                  go_simp
                  first | done | exact ⟨rfl, rfl⟩ | rfl
                · simp at ho
                  subst ho
                  have hV := Option.some.inj (show some (.pointer (some ⟨b, of + k * 4 + 2, none⟩)) = some v_ from hV)
                  subst hV
                  have s2_ : a.tmps.getD 2 undef = .slice (some ⟨b, of, none⟩) len cap := hF.keep 2 (by kernel_rfl)
                  have s12_ : a.tmps.getD 12 undef = .int .i64 (k : Int) := hF.keep 12 (by kernel_rfl)
                  have s11_ : a.tmps.getD 11 undef = .int .u64 now2 := hF.keep 11 (by kernel_rfl)
                  have s9_ : a.tmps.getD 9 undef = .pointer (some ⟨gx, 0, none⟩) := hF.keep 9 (by kernel_rfl)
                  have f9_ : a.tmps.getD 84 undef = .pointer (some ⟨b, of + k * 4, none⟩) := hF.val 9 _ _ _ (hdep ⟨9, .data⟩ (by simp) rfl) rfl rfl rfl
                  try clear hP
                  clear hdep
                  unfold Oper.wp
                  go_simp
                  first | done | exact ⟨rfl, rfl⟩ | rfl
                · simp at ho
                  subst ho
                  have hV := Option.some.inj (show some (.int .i64 arg) = some v_ from hV)
                  subst hV
                  obtain ⟨v, h⟩ := hP
                  have hX := BX6.out.drew.upd h.upd (fun h => h)
                  have x0_ : w'.cell? ⟨gx, 0, none⟩ = some (.int .u64 win) := hX.cell 0
                  have x1_ : w'.cell? ⟨gx, 1, none⟩ = some (.int .i64 most) := hX.cell 1
                  have x2_ : w'.cell? ⟨gx, 2, none⟩ = some (.bool (s).isSome) := hX.cell 2
                  have x3_ : w'.cell? ⟨gx, 3, none⟩ = some (.int .u64 e) := hX.cell 3
                  have x4_ : w'.cell? ⟨gx, 4, none⟩ = some (.slice A n c) := hX.cell 4
                  have x5_ : w'.cell? ⟨gx, 5, none⟩ = some (.slice M m d) := hX.cell 5
                  have xl_ := hX.lt
                  have hu_ := (CW6.out.upd.drew).trans h.upd (fun _ h => h.elim)
                  have q1_ : w'.cell? ⟨b, of + k * 4 + 1, none⟩ = some (.int .i64 id) := HB0.out w' hu_ 1 _ rfl
                  have q2_ : w'.cell? ⟨b, of + k * 4 + 2, none⟩ = some (.int .i64 arg) := HB0.out w' hu_ 2 _ rfl
                  have s2_ : a.tmps.getD 2 undef = .slice (some ⟨b, of, none⟩) len cap := hF.keep 2 (by kernel_rfl)
                  have s12_ : a.tmps.getD 12 undef = .int .i64 (k : Int) := hF.keep 12 (by kernel_rfl)
                  have s11_ : a.tmps.getD 11 undef = .int .u64 now2 := hF.keep 11 (by kernel_rfl)
                  have s9_ : a.tmps.getD 9 undef = .pointer (some ⟨gx, 0, none⟩) := hF.keep 9 (by kernel_rfl)
                  have f10_ : a.tmps.getD 85 undef = .pointer (some ⟨b, of + k * 4 + 2, none⟩) := hF.val 10 _ _ _ (hdep ⟨10, .data⟩ (by simp) rfl) rfl rfl rfl
                  try clear hP
                  clear hdep
                  unfold Oper.wp
                  go_simp
                  first | done | exact ⟨rfl, rfl⟩ | rfl
                · exact nomatch hV
                · exact nomatch hV
                · exact nomatch hV
                · exact nomatch hV
                · exact nomatch hV
                · exact nomatch hV
                · exact nomatch hV
                · exact nomatch hV
              · intro j o_ ho hV D a w' hF hDj hcl hP hdep
                have hjn : j < 20 := by
                  have := (Array.getElem?_eq_some_iff.1 ho).1
                  simp at this
                  omega
                rcases j with _ | _ | _ | _ | _ | _ | _ | _ | _ | _ | _ | _ | _ | _ | _ | _ | _ | _ | _ | _ | j
                all_goals (try (exfalso; omega))
                · exact nomatch hV
                · exact nomatch hV
                · exact nomatch hV
                · exact nomatch hV
                · exact nomatch hV
                · exact nomatch hV
                · exact nomatch hV
                · exact nomatch hV
                · exact nomatch hV
                · exact nomatch hV
                · exact nomatch hV
                · exact nomatch hV
                · simp at ho
                  subst ho
                  have f0_ : a.tmps.getD 75 undef = .agg #[.int .u64 win, .int .i64 most, .bool (s).isSome, .int .u64 e, .slice A n c, .slice M m d] := hF.val 0 _ _ _ (hdep ⟨0, .data⟩ (by simp) rfl) rfl rfl rfl
                  have f1_ : a.tmps.getD 76 undef = .int .u64 now2 := hF.val 1 _ _ _ (hdep ⟨1, .data⟩ (by simp) rfl) rfl rfl rfl
                  have f6_ : a.tmps.getD 81 undef = .int .i64 id := hF.val 6 _ _ _ (hdep ⟨6, .data⟩ (by simp) rfl) rfl rfl rfl
                  have f11_ : a.tmps.getD 86 undef = .int .i64 arg := hF.val 11 _ _ _ (hdep ⟨11, .data⟩ (by simp) rfl) rfl rfl rfl
                  obtain ⟨v, h⟩ := hP
                  have e12 : D 12 = false := hDj
                  have e13 : D 13 = false := by
                    cases h_ : D 13 with
                    | false => rfl
                    | true => exact absurd (hcl 13 _ rfl h_ ⟨12, .data⟩ (by simp) rfl) (by rw [e12]; simp)
                  have e14 : D 14 = false := by
                    cases h_ : D 14 with
                    | false => rfl
                    | true => exact absurd (hcl 14 _ rfl h_ ⟨13, .data⟩ (by simp) rfl) (by rw [e13]; simp)
                  have e15 : D 15 = false := by
                    cases h_ : D 15 with
                    | false => rfl
                    | true => exact absurd (hcl 15 _ rfl h_ ⟨13, .data⟩ (by simp) rfl) (by rw [e13]; simp)
                  have e18 : D 18 = false := by
                    cases h_ : D 18 with
                    | false => rfl
                    | true => exact absurd (hcl 18 _ rfl h_ ⟨12, .chain⟩ (by simp) rfl) (by rw [e12]; simp)
                  have e19 : D 19 = false := by
                    cases h_ : D 19 with
                    | false => rfl
                    | true => exact absurd (hcl 19 _ rfl h_ ⟨12, .phase⟩ (by simp) rfl) (by rw [e12]; simp)
                  rw [e12, e13, e14, e15, e18, e19] at h
                  have hRI := RI6.out.step h.upd (fun _ h => h.elim) h.fx_ge
                  have hlt := h.fx_lt HLT6.out
                  clear hdep hcl
                  unfold Oper.wp
                  go_simp
                  refine (radd14_to HADD.out HNB.out HMB.out HW.out (fun _ => HN2.out) hcm9 hca9 hRI hlt).mono ?_
                  rintro e_ w2_ ⟨e', A', n', c', M', m', d', X, cx, Y, dy, rfl, hr, hx, hy, hd⟩
                  simp only [Array.getD_eq_getD_getElem?] at h
                  refine ⟨_, rfl, ⟨v.g14, v.g15, e', A', n', c', M', m', d', X, cx, Y, dy⟩, ?_⟩
                  rw [show more D 12 12 = true from rfl, show more D 12 13 = false from e13, show more D 12 14 = false from e14, show more D 12 15 = false from e15, show more D 12 18 = false from e18, show more D 12 19 = false from e19]
                  exact h.call hd hr hx hy
                · simp at ho
                  subst ho
                  obtain ⟨v, h⟩ := hP
                  have e12 : D 12 = true := hdep ⟨12, .data⟩ (by simp) rfl
                  have e13 : D 13 = false := hDj
                  rw [e12, e13] at h
                  have f12_ : a.tmps.getD 87 undef = .tuple #[.agg #[.int .u64 win, .int .i64 most, .bool s'.isSome, .int .u64 v.e, .slice v.A v.n v.c, .slice v.M v.m v.d], .agg #[.bool op, .bool rd, .int .u64 due, .slice v.X nb v.cx, .slice v.Y mb v.dy]] := (h.c rfl).1
                  clear hdep hcl
                  unfold Oper.wp
                  go_simp
                  refine ⟨_, rfl, v, ?_⟩
                  simp only [Array.getD_eq_getD_getElem?] at h f12_
                  rw [f12_] at h
                  rw [show more D 13 12 = true from e12, show more D 13 13 = true from rfl]
                  exact h.mv
                · simp at ho
                  subst ho
                  obtain ⟨v, h⟩ := hP
                  have e13 : D 13 = true := hdep ⟨13, .data⟩ (by simp) rfl
                  have e14 : D 14 = false := hDj
                  rw [e13, e14] at h
                  have f13_ : a.tmps.getD 74 undef = .tuple #[.agg #[.int .u64 win, .int .i64 most, .bool s'.isSome, .int .u64 v.e, .slice v.A v.n v.c, .slice v.M v.m v.d], .agg #[.bool op, .bool rd, .int .u64 due, .slice v.X nb v.cx, .slice v.Y mb v.dy]] := h.m rfl
                  clear hdep hcl
                  unfold Oper.wp
                  go_simp
                  refine ⟨_, rfl, v, ?_⟩
                  simp only [Array.getD_eq_getD_getElem?] at h f13_
                  rw [f13_] at h
                  rw [show more D 14 13 = true from e13, show more D 14 14 = true from rfl]
                  exact h.ex
                · simp at ho
                  subst ho
                  obtain ⟨v, h⟩ := hP
                  have e13 : D 13 = true := hdep ⟨13, .data⟩ (by simp) rfl
                  have e15 : D 15 = false := hDj
                  rw [e13, e15] at h
                  have f13_ : a.tmps.getD 74 undef = .tuple #[.agg #[.int .u64 win, .int .i64 most, .bool s'.isSome, .int .u64 v.e, .slice v.A v.n v.c, .slice v.M v.m v.d], .agg #[.bool op, .bool rd, .int .u64 due, .slice v.X nb v.cx, .slice v.Y mb v.dy]] := h.m rfl
                  clear hdep hcl
                  unfold Oper.wp
                  go_simp
                  refine ⟨_, rfl, v, ?_⟩
                  simp only [Array.getD_eq_getD_getElem?] at h f13_
                  rw [f13_] at h
                  rw [show more D 15 13 = true from e13, show more D 15 15 = true from rfl]
                  exact h.ey
                · simp at ho
                  subst ho
                  obtain ⟨v, h⟩ := hP
                  have e16 : D 16 = false := hDj
                  have e18 : D 18 = false := by
                    cases h_ : D 18 with
                    | false => rfl
                    | true => exact absurd (hcl 18 _ rfl h_ ⟨16, .data⟩ (by simp) rfl) (by rw [e16]; simp)
                  rw [e16, e18] at h
                  clear hdep hcl
                  unfold Oper.wp
                  go_simp
                  simp only [Array.getD_eq_getD_getElem?] at h
                  refine ⟨_, rfl, { v with g14 := w'.heap.size }, ?_⟩
                  rw [show more D 16 16 = true from rfl, show more D 16 18 = false from e18]
                  exact h.alloc14
                · simp at ho
                  subst ho
                  obtain ⟨v, h⟩ := hP
                  have e17 : D 17 = false := hDj
                  have e19 : D 19 = false := by
                    cases h_ : D 19 with
                    | false => rfl
                    | true => exact absurd (hcl 19 _ rfl h_ ⟨17, .data⟩ (by simp) rfl) (by rw [e17]; simp)
                  rw [e17, e19] at h
                  clear hdep hcl
                  unfold Oper.wp
                  go_simp
                  simp only [Array.getD_eq_getD_getElem?] at h
                  refine ⟨_, rfl, { v with g15 := w'.heap.size }, ?_⟩
                  rw [show more D 17 17 = true from rfl, show more D 17 19 = false from e19]
                  exact h.alloc15
                · simp at ho
                  subst ho
                  obtain ⟨v, h⟩ := hP
                  have e16 : D 16 = true := hdep ⟨16, .data⟩ (by simp) rfl
                  have e14 : D 14 = true := hdep ⟨14, .data⟩ (by simp) rfl
                  have e18 : D 18 = false := hDj
                  rw [e16, e14, e18] at h
                  obtain ⟨a1, a2, a3⟩ := h.p14 rfl
                  replace a3 : Blk w' v.g14 32 #[.int .u64 0, .int .i64 0, .bool false, .int .u64 0, .slice none 0 0, .slice none 0 0] := a3
                  have f16_ : a.tmps.getD 14 undef = .pointer (some ⟨v.g14, 0, none⟩) := a1
                  have f14_ : a.tmps.getD 88 undef = .agg #[.int .u64 win, .int .i64 most, .bool s'.isSome, .int .u64 v.e, .slice v.A v.n v.c, .slice v.M v.m v.d] := h.x rfl
                  have z0_ : w'.cell? ⟨v.g14, 0, none⟩ = some (.int .u64 0) := a3.cell 0
                  have z1_ : w'.cell? ⟨v.g14, 1, none⟩ = some (.int .i64 0) := a3.cell 1
                  have z2_ : w'.cell? ⟨v.g14, 2, none⟩ = some (.bool false) := a3.cell 2
                  have z3_ : w'.cell? ⟨v.g14, 3, none⟩ = some (.int .u64 0) := a3.cell 3
                  have z4_ : w'.cell? ⟨v.g14, 4, none⟩ = some (.slice none 0 0) := a3.cell 4
                  have z5_ : w'.cell? ⟨v.g14, 5, none⟩ = some (.slice none 0 0) := a3.cell 5
                  have zl_ := a3.lt
                  have zf_ := a3.frz
                  clear hdep hcl
                  unfold Oper.wp
                  go_simp
                  refine ⟨v, ?_⟩
                  simp only [Array.getD_eq_getD_getElem?] at h f16_ f14_
                  rw [f16_, f14_] at h
                  rw [show more D 18 16 = true from e16, show more D 18 14 = true from e14, show more D 18 18 = true from rfl]
                  exact h.store14
                · simp at ho
                  subst ho
                  obtain ⟨v, h⟩ := hP
                  have e17 : D 17 = true := hdep ⟨17, .data⟩ (by simp) rfl
                  have e15 : D 15 = true := hdep ⟨15, .data⟩ (by simp) rfl
                  have e19 : D 19 = false := hDj
                  rw [e17, e15, e19] at h
                  obtain ⟨a1, a2, a3⟩ := h.p15 rfl
                  replace a3 : Blk w' v.g15 45 #[.bool false, .bool false, .int .u64 0, .slice none 0 0, .slice none 0 0] := a3
                  have f17_ : a.tmps.getD 15 undef = .pointer (some ⟨v.g15, 0, none⟩) := a1
                  have f15_ : a.tmps.getD 89 undef = .agg #[.bool op, .bool rd, .int .u64 due, .slice v.X nb v.cx, .slice v.Y mb v.dy] := h.y rfl
                  have z0_ : w'.cell? ⟨v.g15, 0, none⟩ = some (.bool false) := a3.cell 0
                  have z1_ : w'.cell? ⟨v.g15, 1, none⟩ = some (.bool false) := a3.cell 1
                  have z2_ : w'.cell? ⟨v.g15, 2, none⟩ = some (.int .u64 0) := a3.cell 2
                  have z3_ : w'.cell? ⟨v.g15, 3, none⟩ = some (.slice none 0 0) := a3.cell 3
                  have z4_ : w'.cell? ⟨v.g15, 4, none⟩ = some (.slice none 0 0) := a3.cell 4
                  have zl_ := a3.lt
                  have zf_ := a3.frz
                  clear hdep hcl
                  unfold Oper.wp
                  go_simp
                  refine ⟨v, ?_⟩
                  simp only [Array.getD_eq_getD_getElem?] at h f17_ f15_
                  rw [f17_, f15_] at h
                  rw [show more D 19 17 = true from e17, show more D 19 15 = true from e15, show more D 19 19 = true from rfl]
                  exact h.store15
              · intro D a w' hall hF hP
                obtain ⟨v, h⟩ := hP
                rw [hall 12 (by decide), hall 13 (by decide), hall 14 (by decide), hall 15 (by decide), hall 16 (by decide), hall 17 (by decide), hall 18 (by decide), hall 19 (by decide)] at h
                obtain ⟨g14, g15, e2, A2, n2, c2, M2, m2, d2, X2, cx2, Y2, dy2⟩ := v
                obtain ⟨a1, a2, a3⟩ := h.p14 rfl
                obtain ⟨b1, b2, b3⟩ := h.p15 rfl
                obtain ⟨_, c1, c2_, c3⟩ := h.c rfl
                simp only at a1 a2 b1 b2
                have hl14 := a3.lt
                have hl15 := b3.lt
                simp only at hl14 hl15
                have U7 : Upd (fun _ => False) W6 w' := (Upd.refl (fun _ => False) W6).drew.trans h.upd (fun _ h => h.elim)
                obtain ⟨F7, hF7⟩ : ∃ F7, Fx F6 true true ⟨g14, g15, e2, A2, n2, c2, M2, m2, d2, X2, cx2, Y2, dy2⟩ = F7 := ⟨_, rfl⟩
                rw [hF7] at c1 c2_ c3
                have hFm : ∀ k, F6 k → F7 k := fun k hk => by rw [← hF7]; exact .inl hk
                have hFg : ∀ k, F7 k → F6 k ∨ (W6.heap.size ≤ k ∧ k < w'.heap.size) := fun k hk => by
                  rw [← hF7] at hk
                  rcases hk with hk | ⟨_, rfl⟩ | ⟨_, rfl⟩
                  · exact .inl hk
                  · exact .inr ⟨a2, hl14⟩
                  · exact .inr ⟨b2, hl15⟩
                have CW7 := Lib.hid (CW6.out.grow U7 hFg hFm)
                have KA7 := Lib.hid (KA6.out.grow U7 hFg)
                have KM7 := Lib.hid (KM6.out.grow U7 hFg)
                have B7 := Lib.hid (B6.out.upd U7 (fun h => h))
                have BX7 := Lib.hid (BX6.out.upd U7 (fun h => h))
                have GX7 := Lib.hid (hFm _ GX6.out)
                have RI7 := Lib.hid c1
                have KX7 := Lib.hid c2_
                have KY7 := Lib.hid c3
                have P7 : Hid (Blk w' g14 32 #[.int .u64 win, .int .i64 most, .bool (s').isSome, .int .u64 e2, .slice A2 n2 c2, .slice M2 m2 d2]) := Lib.hid a3
                have Q7 : Hid (Blk w' g15 45 #[.bool op, .bool rd, .int .u64 due, .slice X2 nb cx2, .slice Y2 mb dy2]) := Lib.hid b3
                simp only at RI7 KX7 KY7
                have HA1 := Lib.hid a1
                have HB1 := Lib.hid b1
                have HF_ := Lib.hid hF
                clear hF hall h a1 a2 a3 b1 b2 b3 c1 c2_ c3 hl14 hl15 U7 hF7 hFm hFg CW6 KA6 KM6 B6 BX6 GX6 RI6 HLT6 PF6
                rw [HF_.out.act [false, false, false, false, false, false, false, false, false, false, false, false, false, false, true, true, false, false, false, false, false, false, false, false, false, false, false, false, false, false, false, false, false, false, false, false, false, false, false, false, false, false, false, false, false, false, false, false, false, false, false, false, false, false, false, false, false, false, false, false, false, false, false, false, false, false, false, false, false, false, false, false, false, false, true, true, true, true, true, true, true, true, true, true, true, true, true, true, true, true, false, false, false, false, false, false, false, false, false, false, false, false, false, false, false, false, false, false, false, false, false, false, false, false, false, false, false, false, false, false, false, false, false, false, false, false, false, false, false, false, false, false, false, false, false, false, false, false, false, false, false, false, false, false, false, false, false, false, false] (by kernel_rfl)]
                simp only [pickv, Nat.reduceAdd, Nat.zero_add]
                rw [HA1.out, HB1.out]
                clear HF_ HA1 HB1
                generalize a.tmps.getD 74 undef = u74_
                generalize a.tmps.getD 75 undef = u75_
                generalize a.tmps.getD 76 undef = u76_
                generalize a.tmps.getD 77 undef = u77_
                generalize a.tmps.getD 78 undef = u78_
                generalize a.tmps.getD 79 undef = u79_
                generalize a.tmps.getD 80 undef = u80_
                generalize a.tmps.getD 81 undef = u81_
                generalize a.tmps.getD 82 undef = u82_
                generalize a.tmps.getD 83 undef = u83_
                generalize a.tmps.getD 84 undef = u84_
                generalize a.tmps.getD 85 undef = u85_
                generalize a.tmps.getD 86 undef = u86_
                generalize a.tmps.getD 87 undef = u87_
                generalize a.tmps.getD 88 undef = u88_
                generalize a.tmps.getD 89 undef = u89_
                generalize w' = W7 at *
                have p0_ : W7.cell? ⟨g14, 0, none⟩ = some (.int .u64 win) := P7.out.cell 0
                have p1_ : W7.cell? ⟨g14, 1, none⟩ = some (.int .i64 most) := P7.out.cell 1
                have p2_ : W7.cell? ⟨g14, 2, none⟩ = some (.bool (s').isSome) := P7.out.cell 2
                have p3_ : W7.cell? ⟨g14, 3, none⟩ = some (.int .u64 e2) := P7.out.cell 3
                have p4_ : W7.cell? ⟨g14, 4, none⟩ = some (.slice A2 n2 c2) := P7.out.cell 4
                have p5_ : W7.cell? ⟨g14, 5, none⟩ = some (.slice M2 m2 d2) := P7.out.cell 5
                have x0_ : W7.cell? ⟨gx, 0, none⟩ = some (.int .u64 win) := BX7.out.cell 0
                have x1_ : W7.cell? ⟨gx, 1, none⟩ = some (.int .i64 most) := BX7.out.cell 1
                have x2_ : W7.cell? ⟨gx, 2, none⟩ = some (.bool (s).isSome) := BX7.out.cell 2
                have x3_ : W7.cell? ⟨gx, 3, none⟩ = some (.int .u64 e) := BX7.out.cell 3
                have x4_ : W7.cell? ⟨gx, 4, none⟩ = some (.slice A n c) := BX7.out.cell 4
                have x5_ : W7.cell? ⟨gx, 5, none⟩ = some (.slice M m d) := BX7.out.cell 5
                have xl_ := BX7.out.lt
                have xf_ := BX7.out.frz
                have pl_ := P7.out.lt
                go_wp2_with fail
                have HS7 : Hid (∀ k, At gx k → F7 k) := Lib.hid (fun k hk => by rw [show k = gx from hk]; exact GX7.out)
                have HN7 : Hid (∀ k, Fr2 g p6 k → ¬ At gx k) := Lib.hid (fun k hk h1 => CW7.out.isC.ne_blk BX7.out (by decide) (by decide) (show Fr2 g p6 gx from h1 ▸ hk))
                refine Code.gen (fun W => CW w W F7 g p6 win most s' ∧ Kp W F7 A6 nb c6 (nums bb.1) ∧ Kp W F7 M6 mb d6 (prs bb.2) ∧ Kp W F7 X2 nb cx2 (nums bb.1) ∧ Kp W F7 Y2 mb dy2 (prs bb.2) ∧ RIs W F7 s' e2 A2 n2 c2 M2 m2 d2 ∧ Blk W ga 42 #[.bool op, .bool rd, .int .u64 due, .slice A6 nb c6, .slice M6 mb d6] ∧ Blk W g15 45 #[.bool op, .bool rd, .int .u64 due, .slice X2 nb cx2, .slice Y2 mb dy2] ∧ Blk W gx 32 #[.int .u64 win, .int .i64 most, .bool (s').isSome, .int .u64 e2, .slice A2 n2 c2, .slice M2 m2 d2]) ⟨CW7.out.write (Upd.w6s (.int .u64 win) (.int .i64 most) (.bool (s').isSome) (.int .u64 e2) (.slice A2 n2 c2) (.slice M2 m2 d2) (Upd.refl (At gx) W7) (.inl rfl)) HS7.out HN7.out, KA7.out.keep (Upd.w6s (.int .u64 win) (.int .i64 most) (.bool (s').isSome) (.int .u64 e2) (.slice A2 n2 c2) (.slice M2 m2 d2) (Upd.refl (At gx) W7) (.inl rfl)) HS7.out, KM7.out.keep (Upd.w6s (.int .u64 win) (.int .i64 most) (.bool (s').isSome) (.int .u64 e2) (.slice A2 n2 c2) (.slice M2 m2 d2) (Upd.refl (At gx) W7) (.inl rfl)) HS7.out, KX7.out.keep (Upd.w6s (.int .u64 win) (.int .i64 most) (.bool (s').isSome) (.int .u64 e2) (.slice A2 n2 c2) (.slice M2 m2 d2) (Upd.refl (At gx) W7) (.inl rfl)) HS7.out, KY7.out.keep (Upd.w6s (.int .u64 win) (.int .i64 most) (.bool (s').isSome) (.int .u64 e2) (.slice A2 n2 c2) (.slice M2 m2 d2) (Upd.refl (At gx) W7) (.inl rfl)) HS7.out, RI7.out.step (Upd.w6s (.int .u64 win) (.int .i64 most) (.bool (s').isSome) (.int .u64 e2) (.slice A2 n2 c2) (.slice M2 m2 d2) (Upd.refl (At gx) W7) (.inl rfl)) (fun k hk => .inl (HS7.out k hk)) (fun k hk => .inl hk), B7.out.upd (Upd.w6s (.int .u64 win) (.int .i64 most) (.bool (s').isSome) (.int .u64 e2) (.slice A2 n2 c2) (.slice M2 m2 d2) (Upd.refl (At gx) W7) (.inl rfl)) (fun e_ => Blk.ne B7.out BX7.out (by decide) e_), Q7.out.upd (Upd.w6s (.int .u64 win) (.int .i64 most) (.bool (s').isSome) (.int .u64 e2) (.slice A2 n2 c2) (.slice M2 m2 d2) (Upd.refl (At gx) W7) (.inl rfl)) (fun e_ => Blk.ne Q7.out BX7.out (by decide) e_), Blk.w6s (.int .u64 win) (.int .i64 most) (.bool (s').isSome) (.int .u64 e2) (.slice A2 n2 c2) (.slice M2 m2 d2) BX7.out⟩ ?_
                rintro W8 ⟨qCW, qKA, qKM, qKX, qKY, qRI, qB, qQ, qBX⟩
                have CW8 := Lib.hid qCW
                have KA8 := Lib.hid qKA
                have KM8 := Lib.hid qKM
                have KX8 := Lib.hid qKX
                have KY8 := Lib.hid qKY
                have RI8 := Lib.hid qRI
                have B8 := Lib.hid qB
                have Q8 := Lib.hid qQ
                have BX8 := Lib.hid qBX
                clear qCW qKA qKM qKX qKY qRI qB qQ qBX
                clear CW7 KA7 KM7 KX7 KY7 RI7 B7 Q7 BX7 P7 HS7 HN7 x0_ p0_ x1_ p1_ x2_ p2_ x3_ p3_ x4_ p4_ x5_ p5_ xl_ xf_ pl_
                have b0_ : W8.cell? ⟨ga, 0, none⟩ = some (.bool op) := B8.out.cell 0
                have b1_ : W8.cell? ⟨ga, 1, none⟩ = some (.bool rd) := B8.out.cell 1
                have b2_ : W8.cell? ⟨ga, 2, none⟩ = some (.int .u64 due) := B8.out.cell 2
                have b3_ : W8.cell? ⟨ga, 3, none⟩ = some (.slice A6 nb c6) := B8.out.cell 3
                have b4_ : W8.cell? ⟨ga, 4, none⟩ = some (.slice M6 mb d6) := B8.out.cell 4
                have bl_ := B8.out.lt
                have q0_ : W8.cell? ⟨g15, 0, none⟩ = some (.bool op) := Q8.out.cell 0
                have q1_ : W8.cell? ⟨g15, 1, none⟩ = some (.bool rd) := Q8.out.cell 1
                have q2_ : W8.cell? ⟨g15, 2, none⟩ = some (.int .u64 due) := Q8.out.cell 2
                have q3_ : W8.cell? ⟨g15, 3, none⟩ = some (.slice X2 nb cx2) := Q8.out.cell 3
                have q4_ : W8.cell? ⟨g15, 4, none⟩ = some (.slice Y2 mb dy2) := Q8.out.cell 4
                have ql_ := Q8.out.lt
                go_wp2_with fail
                go_region_held3 (fun w' => w'.cell? ⟨ga, 0, none⟩ = some (.bool op) ∧ w'.cell? ⟨ga, 1, none⟩ = some (.bool rd) ∧ w'.cell? ⟨ga, 2, none⟩ = some (.int .u64 due) ∧ w'.cell? ⟨ga, 3, none⟩ = some (.slice A6 nb c6) ∧ w'.cell? ⟨ga, 4, none⟩ = some (.slice M6 mb d6) ∧ w'.cell? ⟨g15, 0, none⟩ = some (.bool op) ∧ w'.cell? ⟨g15, 1, none⟩ = some (.bool rd) ∧ w'.cell? ⟨g15, 2, none⟩ = some (.int .u64 due) ∧ w'.cell? ⟨g15, 3, none⟩ = some (.slice X2 nb cx2) ∧ w'.cell? ⟨g15, 4, none⟩ = some (.slice Y2 mb dy2)) (go_keep) (first | (go_at_call 16; refine (real_to HMB.out HBM.out _ KM8.out.sl.drew).mono ?_; rintro e_ w9 ⟨M9, d9, rfl, hs9, hd⟩; have U9 := Lib.hid (((Upd.refl (fun _ => False) W8).drew).trans (Upd.of_below hd (fun _ => False)) (fun _ h => h.elim)); have S9 := Lib.hid hs9; have B9 := Lib.hid (B8.out.upd U9.out (fun h => h)); have Q9 := Lib.hid (Q8.out.upd U9.out (fun h => h)); have b90_ : w9.cell? ⟨ga, 0, none⟩ = some (.bool op) := B9.out.cell 0; have b91_ : w9.cell? ⟨ga, 1, none⟩ = some (.bool rd) := B9.out.cell 1; have b92_ : w9.cell? ⟨ga, 2, none⟩ = some (.int .u64 due) := B9.out.cell 2; have b93_ : w9.cell? ⟨ga, 3, none⟩ = some (.slice A6 nb c6) := B9.out.cell 3; have b94_ : w9.cell? ⟨ga, 4, none⟩ = some (.slice M6 mb d6) := B9.out.cell 4; have q90_ : w9.cell? ⟨g15, 0, none⟩ = some (.bool op) := Q9.out.cell 0; have q91_ : w9.cell? ⟨g15, 1, none⟩ = some (.bool rd) := Q9.out.cell 1; have q92_ : w9.cell? ⟨g15, 2, none⟩ = some (.int .u64 due) := Q9.out.cell 2; have q93_ : w9.cell? ⟨g15, 3, none⟩ = some (.slice X2 nb cx2) := Q9.out.cell 3; have q94_ : w9.cell? ⟨g15, 4, none⟩ = some (.slice Y2 mb dy2) := Q9.out.cell 4; clear hd hs9) | (go_at_call 15; refine (same_any _ _ _ _ nb c6 mb d9 cx2 dy2 bb.1 bb.2 HNB.out HMB.out HBA.out HBM.out _ (KA8.out.keep0 U9.out).sl S9.out (KX8.out.keep0 U9.out).sl (KY8.out.keep0 U9.out).sl).mono ?_; rintro e_ w10 ⟨rfl, hd⟩; have U10 := Lib.hid (U9.out.trans (Upd.of_below hd (fun _ => False)) (fun _ h => h.elim)); have BV := Lib.hid (B8.out.upd U10.out (fun h => h)); have QV := Lib.hid (Q8.out.upd U10.out (fun h => h)); have bV0_ : w10.cell? ⟨ga, 0, none⟩ = some (.bool op) := BV.out.cell 0; have bV1_ : w10.cell? ⟨ga, 1, none⟩ = some (.bool rd) := BV.out.cell 1; have bV2_ : w10.cell? ⟨ga, 2, none⟩ = some (.int .u64 due) := BV.out.cell 2; have bV3_ : w10.cell? ⟨ga, 3, none⟩ = some (.slice A6 nb c6) := BV.out.cell 3; have bV4_ : w10.cell? ⟨ga, 4, none⟩ = some (.slice M6 mb d6) := BV.out.cell 4; have qV0_ : w10.cell? ⟨g15, 0, none⟩ = some (.bool op) := QV.out.cell 0; have qV1_ : w10.cell? ⟨g15, 1, none⟩ = some (.bool rd) := QV.out.cell 1; have qV2_ : w10.cell? ⟨g15, 2, none⟩ = some (.int .u64 due) := QV.out.cell 2; have qV3_ : w10.cell? ⟨g15, 3, none⟩ = some (.slice X2 nb cx2) := QV.out.cell 3; have qV4_ : w10.cell? ⟨g15, 4, none⟩ = some (.slice Y2 mb dy2) := QV.out.cell 4; clear hd))
                have CW10 := Lib.hid (CW8.out.keep0 U10.out)
                have RI10 := Lib.hid (RI8.out.step U10.out (fun _ h => h.elim) (fun _ h => .inl h))
                have BX10 := Lib.hid (BX8.out.upd U10.out (fun h => h))
                clear CW8 RI8 BX8 KA8 KM8 KX8 KY8
                have x2_ : w10.cell? ⟨gx, 2, none⟩ = some (.bool s'.isSome) := BX10.out.cell 2
                have xl_ := BX10.out.lt
                go_wp2_with fail
                go_region_held3 (fun w' => w'.cell? ⟨gx, 2, none⟩ = some (.bool s'.isSome)) (go_keep) ((go_at_call 19; refine (open_to (b := s'.isSome) (CW10.out.isC.keep0 (Upd.refl (fun _ => False) w10).drew) rfl).mono ?_; rintro e_ w11 ⟨rfl, hw⟩; subst hw))
                go_wp2
                go_roundw
                case rel => exact ⟨k + 1, F7, p6, s', e2, A2, n2, c2, M2, m2, d2, now2, by omega, by omega, by go_num, rfl, HN2, HMM, Lib.hid (CW10.out.keep0 (Upd.refl (fun _ => False) w10).drew), Lib.hid (RI10.out.step (Upd.refl (fun _ => False) w10).drew (fun _ h => h.elim) (fun _ h => .inl h)), Lib.hid (BX10.out.upd (Upd.refl (fun _ => False) w10).drew (fun h => h)), GX7⟩
                case measure => simp [intOf]; omega
          · obtain ⟨s', bb, is, hexp⟩ : ∃ s' bb is, cexp s now2 = (s', bb, is) := ⟨_, _, _, rfl⟩
            have HMM : Hid (cmem s' ≤ k + 1 ∧ cargs s' ≤ k + 1) := Lib.hid (by
              have h := cexp_mem s now2
              rw [hexp] at h
              have := HCM.out
              simp only at h
              omega)
            have HBL : Hid (bb.1.length ≤ 1000 ∧ bb.2.length ≤ 1000) := Lib.hid (by
              have h := cexp_blen s now2
              rw [hexp] at h
              have := HCM.out
              simp only at h
              omega)
            have HEXP := Lib.hid hexp
            obtain ⟨nb, hnb⟩ : ∃ x, bb.1.length = x := ⟨_, rfl⟩
            obtain ⟨mb, hmb⟩ : ∃ x, bb.2.length = x := ⟨_, rfl⟩
            have HBA : Hid (nb ≤ 1000) := Lib.hid (hnb ▸ HBL.out.1)
            have HBM : Hid (mb ≤ 1000) := Lib.hid (hmb ▸ HBL.out.2)
            have HNB := Lib.hid hnb
            have HMB := Lib.hid hmb
            clear hexp hnb hmb
            have n0_ : ((kd : Int) == 1) = false := by simpa using hkd
            go_wp2_with fail
            refine (cexp_to HEXP.out HNB.out HMB.out CWr.out.isC).mono ?_
            rintro e_ w4 ⟨p6, A6, c6, M6, d6, rfl, hp⟩
            have U5 := (Upd.refl (fun _ => False) w4).alloc (.cells #[.slice A6 nb c6, .slice M6 mb d6] 40)
            have CW5 := Lib.hid ((CWr.out.next hp).keep0 U5)
            have KA5 := Lib.hid (hp.ka.keep0 U5)
            have KM5 := Lib.hid (hp.km.keep0 U5)
            have RI5 : Hid (RIs (w4.alloc (.cells #[.slice A6 nb c6, .slice M6 mb d6] 40)) (Nx F p6) s e A n c M m d) := Lib.hid ⟨(CWr.out.kp hp RIr.out.ka).keep0 U5, (CWr.out.kp hp RIr.out.km).keep0 U5, RIr.out.en, RIr.out.ln, RIr.out.lm⟩
            have BX5 := Lib.hid ((CWr.out.blk hp BXr.out (by decide) (by decide)).alloc (.cells #[.slice A6 nb c6, .slice M6 mb d6] 40))
            have B5 := Lib.hid (Blk.new w4 #[.slice A6 nb c6, .slice M6 mb d6] 40)
            have GX7 : Hid (Nx F p6 gx) := Lib.hid (.inl GXr.out)
            clear hp U5 CWr RIr BXr GXr
            have x0_ : (w4.alloc (.cells #[.slice A6 nb c6, .slice M6 mb d6] 40)).cell? ⟨gx, 0, none⟩ = some (.int .u64 win) := BX5.out.cell 0
            have x1_ : (w4.alloc (.cells #[.slice A6 nb c6, .slice M6 mb d6] 40)).cell? ⟨gx, 1, none⟩ = some (.int .i64 most) := BX5.out.cell 1
            have x2_ : (w4.alloc (.cells #[.slice A6 nb c6, .slice M6 mb d6] 40)).cell? ⟨gx, 2, none⟩ = some (.bool (s).isSome) := BX5.out.cell 2
            have x3_ : (w4.alloc (.cells #[.slice A6 nb c6, .slice M6 mb d6] 40)).cell? ⟨gx, 3, none⟩ = some (.int .u64 e) := BX5.out.cell 3
            have x4_ : (w4.alloc (.cells #[.slice A6 nb c6, .slice M6 mb d6] 40)).cell? ⟨gx, 4, none⟩ = some (.slice A n c) := BX5.out.cell 4
            have x5_ : (w4.alloc (.cells #[.slice A6 nb c6, .slice M6 mb d6] 40)).cell? ⟨gx, 5, none⟩ = some (.slice M m d) := BX5.out.cell 5
            have xl_ := BX5.out.lt
            go_wp2_with fail
            refine (rexp14_to HEXP.out HNB.out HMB.out RI5.out).mono ?_
            rintro e_ w6 ⟨e2, A2, n2, c2, M2, m2, d2, X2, cx2, Y2, dy2, rfl, hr, hx, hy, hd⟩
            have U7 : Upd (fun _ => False) (w4.alloc (.cells #[.slice A6 nb c6, .slice M6 mb d6] 40)) ((w6.alloc (.cells #[.int .u64 win, .int .i64 most, .bool (s').isSome, .int .u64 e2, .slice A2 n2 c2, .slice M2 m2 d2] 32)).alloc (.cells #[.slice X2 nb cx2, .slice Y2 mb dy2] 30)) := ((Upd.of_below hd (fun _ => False)).alloc (.cells #[.int .u64 win, .int .i64 most, .bool (s').isSome, .int .u64 e2, .slice A2 n2 c2, .slice M2 m2 d2] 32)).alloc (.cells #[.slice X2 nb cx2, .slice Y2 mb dy2] 30)
            have V7 : Upd (fun _ => False) w6 ((w6.alloc (.cells #[.int .u64 win, .int .i64 most, .bool (s').isSome, .int .u64 e2, .slice A2 n2 c2, .slice M2 m2 d2] 32)).alloc (.cells #[.slice X2 nb cx2, .slice Y2 mb dy2] 30)) := ((Upd.refl (fun _ => False) w6).alloc (.cells #[.int .u64 win, .int .i64 most, .bool (s').isSome, .int .u64 e2, .slice A2 n2 c2, .slice M2 m2 d2] 32)).alloc (.cells #[.slice X2 nb cx2, .slice Y2 mb dy2] 30)
            have CW7 := Lib.hid (CW5.out.keep0 U7)
            have KA7 := Lib.hid (KA5.out.keep0 U7)
            have KM7 := Lib.hid (KM5.out.keep0 U7)
            have BX7 := Lib.hid (BX5.out.upd U7 (fun h => h))
            have B7 := Lib.hid (B5.out.upd U7 (fun h => h))
            have RI7 := Lib.hid (hr.step V7 (fun _ h => h.elim) (fun _ h => .inl h))
            have KX7 := Lib.hid (hx.keep0 V7)
            have KY7 := Lib.hid (hy.keep0 V7)
            have P7 := Lib.hid ((Blk.new w6 #[.int .u64 win, .int .i64 most, .bool (s').isSome, .int .u64 e2, .slice A2 n2 c2, .slice M2 m2 d2] 32).alloc (.cells #[.slice X2 nb cx2, .slice Y2 mb dy2] 30))
            have Q7 := Lib.hid (Blk.new1 w6 (.cells #[.int .u64 win, .int .i64 most, .bool (s').isSome, .int .u64 e2, .slice A2 n2 c2, .slice M2 m2 d2] 32) #[.slice X2 nb cx2, .slice Y2 mb dy2] 30)
            clear hr hx hy hd U7 V7 CW5 KA5 KM5 RI5 BX5 B5 x0_ x1_ x2_ x3_ x4_ x5_ xl_
            have p0_ : ((w6.alloc (.cells #[.int .u64 win, .int .i64 most, .bool (s').isSome, .int .u64 e2, .slice A2 n2 c2, .slice M2 m2 d2] 32)).alloc (.cells #[.slice X2 nb cx2, .slice Y2 mb dy2] 30)).cell? ⟨w6.heap.size, 0, none⟩ = some (.int .u64 win) := P7.out.cell 0
            have p1_ : ((w6.alloc (.cells #[.int .u64 win, .int .i64 most, .bool (s').isSome, .int .u64 e2, .slice A2 n2 c2, .slice M2 m2 d2] 32)).alloc (.cells #[.slice X2 nb cx2, .slice Y2 mb dy2] 30)).cell? ⟨w6.heap.size, 1, none⟩ = some (.int .i64 most) := P7.out.cell 1
            have p2_ : ((w6.alloc (.cells #[.int .u64 win, .int .i64 most, .bool (s').isSome, .int .u64 e2, .slice A2 n2 c2, .slice M2 m2 d2] 32)).alloc (.cells #[.slice X2 nb cx2, .slice Y2 mb dy2] 30)).cell? ⟨w6.heap.size, 2, none⟩ = some (.bool (s').isSome) := P7.out.cell 2
            have p3_ : ((w6.alloc (.cells #[.int .u64 win, .int .i64 most, .bool (s').isSome, .int .u64 e2, .slice A2 n2 c2, .slice M2 m2 d2] 32)).alloc (.cells #[.slice X2 nb cx2, .slice Y2 mb dy2] 30)).cell? ⟨w6.heap.size, 3, none⟩ = some (.int .u64 e2) := P7.out.cell 3
            have p4_ : ((w6.alloc (.cells #[.int .u64 win, .int .i64 most, .bool (s').isSome, .int .u64 e2, .slice A2 n2 c2, .slice M2 m2 d2] 32)).alloc (.cells #[.slice X2 nb cx2, .slice Y2 mb dy2] 30)).cell? ⟨w6.heap.size, 4, none⟩ = some (.slice A2 n2 c2) := P7.out.cell 4
            have p5_ : ((w6.alloc (.cells #[.int .u64 win, .int .i64 most, .bool (s').isSome, .int .u64 e2, .slice A2 n2 c2, .slice M2 m2 d2] 32)).alloc (.cells #[.slice X2 nb cx2, .slice Y2 mb dy2] 30)).cell? ⟨w6.heap.size, 5, none⟩ = some (.slice M2 m2 d2) := P7.out.cell 5
            have x0_ : ((w6.alloc (.cells #[.int .u64 win, .int .i64 most, .bool (s').isSome, .int .u64 e2, .slice A2 n2 c2, .slice M2 m2 d2] 32)).alloc (.cells #[.slice X2 nb cx2, .slice Y2 mb dy2] 30)).cell? ⟨gx, 0, none⟩ = some (.int .u64 win) := BX7.out.cell 0
            have x1_ : ((w6.alloc (.cells #[.int .u64 win, .int .i64 most, .bool (s').isSome, .int .u64 e2, .slice A2 n2 c2, .slice M2 m2 d2] 32)).alloc (.cells #[.slice X2 nb cx2, .slice Y2 mb dy2] 30)).cell? ⟨gx, 1, none⟩ = some (.int .i64 most) := BX7.out.cell 1
            have x2_ : ((w6.alloc (.cells #[.int .u64 win, .int .i64 most, .bool (s').isSome, .int .u64 e2, .slice A2 n2 c2, .slice M2 m2 d2] 32)).alloc (.cells #[.slice X2 nb cx2, .slice Y2 mb dy2] 30)).cell? ⟨gx, 2, none⟩ = some (.bool (s).isSome) := BX7.out.cell 2
            have x3_ : ((w6.alloc (.cells #[.int .u64 win, .int .i64 most, .bool (s').isSome, .int .u64 e2, .slice A2 n2 c2, .slice M2 m2 d2] 32)).alloc (.cells #[.slice X2 nb cx2, .slice Y2 mb dy2] 30)).cell? ⟨gx, 3, none⟩ = some (.int .u64 e) := BX7.out.cell 3
            have x4_ : ((w6.alloc (.cells #[.int .u64 win, .int .i64 most, .bool (s').isSome, .int .u64 e2, .slice A2 n2 c2, .slice M2 m2 d2] 32)).alloc (.cells #[.slice X2 nb cx2, .slice Y2 mb dy2] 30)).cell? ⟨gx, 4, none⟩ = some (.slice A n c) := BX7.out.cell 4
            have x5_ : ((w6.alloc (.cells #[.int .u64 win, .int .i64 most, .bool (s').isSome, .int .u64 e2, .slice A2 n2 c2, .slice M2 m2 d2] 32)).alloc (.cells #[.slice X2 nb cx2, .slice Y2 mb dy2] 30)).cell? ⟨gx, 5, none⟩ = some (.slice M m d) := BX7.out.cell 5
            have xl_ := BX7.out.lt
            have xf_ := BX7.out.frz
            have pl_ := P7.out.lt
            go_wp2_with fail
            have HS7 : Hid (∀ k, At gx k → (Nx F p6) k) := Lib.hid (fun k hk => by rw [show k = gx from hk]; exact GX7.out)
            have HN7 : Hid (∀ k, Fr2 g p6 k → ¬ At gx k) := Lib.hid (fun k hk h1 => CW7.out.isC.ne_blk BX7.out (by decide) (by decide) (show Fr2 g p6 gx from h1 ▸ hk))
            refine Code.gen (fun W => CW w W (Nx F p6) g p6 win most s' ∧ Kp W (Nx F p6) A6 nb c6 (nums bb.1) ∧ Kp W (Nx F p6) M6 mb d6 (prs bb.2) ∧ Kp W (Nx F p6) X2 nb cx2 (nums bb.1) ∧ Kp W (Nx F p6) Y2 mb dy2 (prs bb.2) ∧ RIs W (Nx F p6) s' e2 A2 n2 c2 M2 m2 d2 ∧ Blk W w4.heap.size 40 #[.slice A6 nb c6, .slice M6 mb d6] ∧ Blk W (w6.heap.size + 1) 30 #[.slice X2 nb cx2, .slice Y2 mb dy2] ∧ Blk W gx 32 #[.int .u64 win, .int .i64 most, .bool (s').isSome, .int .u64 e2, .slice A2 n2 c2, .slice M2 m2 d2]) ⟨CW7.out.write (Upd.w6s (.int .u64 win) (.int .i64 most) (.bool (s').isSome) (.int .u64 e2) (.slice A2 n2 c2) (.slice M2 m2 d2) (Upd.refl (At gx) ((w6.alloc (.cells #[.int .u64 win, .int .i64 most, .bool (s').isSome, .int .u64 e2, .slice A2 n2 c2, .slice M2 m2 d2] 32)).alloc (.cells #[.slice X2 nb cx2, .slice Y2 mb dy2] 30))) (.inl rfl)) HS7.out HN7.out, KA7.out.keep (Upd.w6s (.int .u64 win) (.int .i64 most) (.bool (s').isSome) (.int .u64 e2) (.slice A2 n2 c2) (.slice M2 m2 d2) (Upd.refl (At gx) ((w6.alloc (.cells #[.int .u64 win, .int .i64 most, .bool (s').isSome, .int .u64 e2, .slice A2 n2 c2, .slice M2 m2 d2] 32)).alloc (.cells #[.slice X2 nb cx2, .slice Y2 mb dy2] 30))) (.inl rfl)) HS7.out, KM7.out.keep (Upd.w6s (.int .u64 win) (.int .i64 most) (.bool (s').isSome) (.int .u64 e2) (.slice A2 n2 c2) (.slice M2 m2 d2) (Upd.refl (At gx) ((w6.alloc (.cells #[.int .u64 win, .int .i64 most, .bool (s').isSome, .int .u64 e2, .slice A2 n2 c2, .slice M2 m2 d2] 32)).alloc (.cells #[.slice X2 nb cx2, .slice Y2 mb dy2] 30))) (.inl rfl)) HS7.out, KX7.out.keep (Upd.w6s (.int .u64 win) (.int .i64 most) (.bool (s').isSome) (.int .u64 e2) (.slice A2 n2 c2) (.slice M2 m2 d2) (Upd.refl (At gx) ((w6.alloc (.cells #[.int .u64 win, .int .i64 most, .bool (s').isSome, .int .u64 e2, .slice A2 n2 c2, .slice M2 m2 d2] 32)).alloc (.cells #[.slice X2 nb cx2, .slice Y2 mb dy2] 30))) (.inl rfl)) HS7.out, KY7.out.keep (Upd.w6s (.int .u64 win) (.int .i64 most) (.bool (s').isSome) (.int .u64 e2) (.slice A2 n2 c2) (.slice M2 m2 d2) (Upd.refl (At gx) ((w6.alloc (.cells #[.int .u64 win, .int .i64 most, .bool (s').isSome, .int .u64 e2, .slice A2 n2 c2, .slice M2 m2 d2] 32)).alloc (.cells #[.slice X2 nb cx2, .slice Y2 mb dy2] 30))) (.inl rfl)) HS7.out, RI7.out.step (Upd.w6s (.int .u64 win) (.int .i64 most) (.bool (s').isSome) (.int .u64 e2) (.slice A2 n2 c2) (.slice M2 m2 d2) (Upd.refl (At gx) ((w6.alloc (.cells #[.int .u64 win, .int .i64 most, .bool (s').isSome, .int .u64 e2, .slice A2 n2 c2, .slice M2 m2 d2] 32)).alloc (.cells #[.slice X2 nb cx2, .slice Y2 mb dy2] 30))) (.inl rfl)) (fun k hk => .inl (HS7.out k hk)) (fun k hk => .inl hk), B7.out.upd (Upd.w6s (.int .u64 win) (.int .i64 most) (.bool (s').isSome) (.int .u64 e2) (.slice A2 n2 c2) (.slice M2 m2 d2) (Upd.refl (At gx) ((w6.alloc (.cells #[.int .u64 win, .int .i64 most, .bool (s').isSome, .int .u64 e2, .slice A2 n2 c2, .slice M2 m2 d2] 32)).alloc (.cells #[.slice X2 nb cx2, .slice Y2 mb dy2] 30))) (.inl rfl)) (fun e_ => Blk.ne B7.out BX7.out (by decide) e_), Q7.out.upd (Upd.w6s (.int .u64 win) (.int .i64 most) (.bool (s').isSome) (.int .u64 e2) (.slice A2 n2 c2) (.slice M2 m2 d2) (Upd.refl (At gx) ((w6.alloc (.cells #[.int .u64 win, .int .i64 most, .bool (s').isSome, .int .u64 e2, .slice A2 n2 c2, .slice M2 m2 d2] 32)).alloc (.cells #[.slice X2 nb cx2, .slice Y2 mb dy2] 30))) (.inl rfl)) (fun e_ => Blk.ne Q7.out BX7.out (by decide) e_), Blk.w6s (.int .u64 win) (.int .i64 most) (.bool (s').isSome) (.int .u64 e2) (.slice A2 n2 c2) (.slice M2 m2 d2) BX7.out⟩ ?_
            rintro W8 ⟨qCW, qKA, qKM, qKX, qKY, qRI, qB, qQ, qBX⟩
            have CW8 := Lib.hid qCW
            have KA8 := Lib.hid qKA
            have KM8 := Lib.hid qKM
            have KX8 := Lib.hid qKX
            have KY8 := Lib.hid qKY
            have RI8 := Lib.hid qRI
            have B8 := Lib.hid qB
            have Q8 := Lib.hid qQ
            have BX8 := Lib.hid qBX
            clear qCW qKA qKM qKX qKY qRI qB qQ qBX
            clear CW7 KA7 KM7 KX7 KY7 RI7 B7 Q7 BX7 P7 HS7 HN7 x0_ p0_ x1_ p1_ x2_ p2_ x3_ p3_ x4_ p4_ x5_ p5_ xl_ xf_ pl_
            have b0_ : W8.cell? ⟨w4.heap.size, 0, none⟩ = some (.slice A6 nb c6) := B8.out.cell 0
            have b1_ : W8.cell? ⟨w4.heap.size, 1, none⟩ = some (.slice M6 mb d6) := B8.out.cell 1
            have bl_ := B8.out.lt
            have q0_ : W8.cell? ⟨(w6.heap.size + 1), 0, none⟩ = some (.slice X2 nb cx2) := Q8.out.cell 0
            have q1_ : W8.cell? ⟨(w6.heap.size + 1), 1, none⟩ = some (.slice Y2 mb dy2) := Q8.out.cell 1
            have ql_ := Q8.out.lt
            go_wp2_with fail
            go_region_held3 (fun w' => w'.cell? ⟨w4.heap.size, 0, none⟩ = some (.slice A6 nb c6) ∧ w'.cell? ⟨w4.heap.size, 1, none⟩ = some (.slice M6 mb d6) ∧ w'.cell? ⟨(w6.heap.size + 1), 0, none⟩ = some (.slice X2 nb cx2) ∧ w'.cell? ⟨(w6.heap.size + 1), 1, none⟩ = some (.slice Y2 mb dy2)) (go_keep) (first | (go_at_call 16; refine (real_to HMB.out HBM.out _ KM8.out.sl.drew).mono ?_; rintro e_ w9 ⟨M9, d9, rfl, hs9, hd⟩; have U9 := Lib.hid (((Upd.refl (fun _ => False) W8).drew).trans (Upd.of_below hd (fun _ => False)) (fun _ h => h.elim)); have S9 := Lib.hid hs9; have B9 := Lib.hid (B8.out.upd U9.out (fun h => h)); have Q9 := Lib.hid (Q8.out.upd U9.out (fun h => h)); have b90_ : w9.cell? ⟨w4.heap.size, 0, none⟩ = some (.slice A6 nb c6) := B9.out.cell 0; have b91_ : w9.cell? ⟨w4.heap.size, 1, none⟩ = some (.slice M6 mb d6) := B9.out.cell 1; have q90_ : w9.cell? ⟨(w6.heap.size + 1), 0, none⟩ = some (.slice X2 nb cx2) := Q9.out.cell 0; have q91_ : w9.cell? ⟨(w6.heap.size + 1), 1, none⟩ = some (.slice Y2 mb dy2) := Q9.out.cell 1; clear hd hs9) | (go_at_call 15; refine (same_any _ _ _ _ nb c6 mb d9 cx2 dy2 bb.1 bb.2 HNB.out HMB.out HBA.out HBM.out _ (KA8.out.keep0 U9.out).sl S9.out (KX8.out.keep0 U9.out).sl (KY8.out.keep0 U9.out).sl).mono ?_; rintro e_ w10 ⟨rfl, hd⟩; have U10 := Lib.hid (U9.out.trans (Upd.of_below hd (fun _ => False)) (fun _ h => h.elim)); have BV := Lib.hid (B8.out.upd U10.out (fun h => h)); have QV := Lib.hid (Q8.out.upd U10.out (fun h => h)); have bV0_ : w10.cell? ⟨w4.heap.size, 0, none⟩ = some (.slice A6 nb c6) := BV.out.cell 0; have bV1_ : w10.cell? ⟨w4.heap.size, 1, none⟩ = some (.slice M6 mb d6) := BV.out.cell 1; have qV0_ : w10.cell? ⟨(w6.heap.size + 1), 0, none⟩ = some (.slice X2 nb cx2) := QV.out.cell 0; have qV1_ : w10.cell? ⟨(w6.heap.size + 1), 1, none⟩ = some (.slice Y2 mb dy2) := QV.out.cell 1; clear hd))
            have CW10 := Lib.hid (CW8.out.keep0 U10.out)
            have RI10 := Lib.hid (RI8.out.step U10.out (fun _ h => h.elim) (fun _ h => .inl h))
            have BX10 := Lib.hid (BX8.out.upd U10.out (fun h => h))
            clear CW8 RI8 BX8 KA8 KM8 KX8 KY8
            have x2_ : w10.cell? ⟨gx, 2, none⟩ = some (.bool s'.isSome) := BX10.out.cell 2
            have xl_ := BX10.out.lt
            go_wp2_with fail
            go_region_held3 (fun w' => w'.cell? ⟨gx, 2, none⟩ = some (.bool s'.isSome)) (go_keep) ((go_at_call 19; refine (open_to (b := s'.isSome) (CW10.out.isC.keep0 (Upd.refl (fun _ => False) w10).drew) rfl).mono ?_; rintro e_ w11 ⟨rfl, hw⟩; subst hw))
            go_wp2
            go_roundw
            case rel => exact ⟨k + 1, (Nx F p6), p6, s', e2, A2, n2, c2, M2, m2, d2, now2, by omega, by omega, by go_num, rfl, HN2, HMM, Lib.hid (CW10.out.keep0 (Upd.refl (fun _ => False) w10).drew), Lib.hid (RI10.out.step (Upd.refl (fun _ => False) w10).drew (fun _ h => h.elim) (fun _ h => .inl h)), Lib.hid (BX10.out.upd (Upd.refl (fun _ => False) w10).drew (fun h => h)), GX7⟩
            case measure => simp [intOf]; omega
        · have hq : ¬ (k : Int) < 100 := by omega
          have hq1 : (k : Int) < (len : Int) := by omega
          go_wp2
          go_ret
          exact ⟨rfl, CWr.out.upd.below0⟩
      · have hq : ¬ (k : Int) < (len : Int) := by omega
        go_wp2
        go_ret
        exact ⟨rfl, CWr.out.upd.below0⟩
  · have HD := Lib.hid (decide_eq_false hok)
    refine (new_no hok _).mono ?_
    rintro e_ w1 ⟨rfl, hw⟩
    subst hw
    go_wp2_with fail
    refine (rnew_to HD.out _).mono ?_
    rintro e_ w2 ⟨rfl, hd⟩
    have U2 := Lib.hid (HU0.out.trans (S' := fun _ => False) (show Upd (fun _ => False) w0 w2 from Upd.of_below hd (fun _ => False)) (fun _ h => h.elim))
    clear hd hok
    go_wp2
    go_ret
    exact ⟨rfl, (U2.out.alloc _).below0⟩
theorem cplays_walk {w : World} (a0 : Int) (w0 : (Lit.int .u64 a0).wf = true) (a1 : Int) (w1 : (Lit.int .i64 a1).wf = true) (A9 : Option Addr) (len9 cap9 : Nat) (L9 : List (List Value)) (hL9 : L9.length = len9) (hlc9 : len9 ≤ cap9) (hm9 : cap9 ≤ maxLen) (hn9 : A9 = none → len9 = 0 ∧ cap9 = 0) (hok9 : ∀ row ∈ L9, Oks d4s row) (hr9 : Rows w A9 4 L9) :
    Calls Try.prog 3 #[.int .u64 a0, .int .i64 a1, .slice A9 len9 cap9] w fun e w' => e = .returned (.bool true) ∧ Below w.heap.size w w' := by
  obtain ⟨l, hl, hwf, hs⟩ := sl_rows (enc := d4) d4_len (by decide) d4_dec hL9 hlc9 hm9 hn9 hok9 hr9
  unfold maxLen at hm9
  exact cplays_any a0 a1 (w64_of w0) A9 len9 cap9 l hl (by omega) hwf w hs
end Go.Proofs.Ytnpecnljibeddaa
