/- CollFull. -/
import Derived.Test.YtnpecnljibeddaaAw
import Derived.Test.YtnpecnljibeddaaDd
import Derived.LoopTactic
import Derived.Deep.AppendLies
import Derived.BigQuiet
import Derived.Deep.QuietTactic
namespace Go.Proofs.Ytnpecnljibeddaa
open Go.RowKit
attribute [local go_sem ↓] Go.wp_at_zero Go.wp_at_succ
set_option linter.unusedVariables false
set_option linter.unusedSimpArgs false

/-- Nothing happened. -/
abbrev zs : Array Value := #[.bool false, .bool false, .int .u64 0, .slice none 0 0, .slice none 0 0]
theorem u8_0 {a : Int} (h : (Lit.int .u8 a).wf = true) : 0 ≤ a ∧ a ≤ 255 := by
  simp only [Lit.wf, Bool.and_eq_true, decide_eq_true_eq] at h
  exact h
theorem most_of {a : Int} (h0 : 0 ≤ a) (h1 : a ≤ 255) : ∃ N : Nat, wrap64 (1 + wrap64 (a.tmod 4)) = (N : Int) ∧ 1 ≤ N ∧ N ≤ 4 := by
  rw [Int.tmod_eq_emod_of_nonneg h0]
  refine ⟨(1 + a % 4).toNat, ?_, by omega, by omega⟩
  unfold wrap64
  omega
/-- The arguments that are open. -/
def cxs (s : CSt) : List Int := match s with | none => [] | some (b, _) => b.1
/-- Is an argument among the first ones? -/
def thr (ys : List Int) (a : Int) (j : Nat) : Bool := (ys.take j).any (· == a)
theorem thr_zero (ys : List Int) (a : Int) : thr ys a 0 = false := by simp [thr]
theorem thr_succ {ys : List Int} {a x : Int} {j : Nat} (h : ys[j]? = some x) : thr ys a (j + 1) = (thr ys a j || x == a) := by
  unfold thr
  rw [take_snoc h, List.any_append]
  simp
theorem thr_idx : ∀ (ys : List Int) (a : Int), thr ys a ys.length = decide (idx ys a < ys.length)
  | [], a => by simp [thr, idx]
  | x :: ys, a => by
    have ih := thr_idx ys a
    unfold thr at ih ⊢
    rw [List.take_length] at ih ⊢
    unfold idx
    by_cases h : x = a
    · simp [h]
    · rw [if_neg h, List.any_cons, ih]
      simp [h]
/-- A window with room: what is open has fewer arguments than there may be. -/
def CI (N : Nat) (s : CSt) : Prop := match s with | none => True | some (b, _) => 1 ≤ b.1.length ∧ b.1.length < N
structure FullStep (N : Nat) (s s' : CSt) (arg : Int) (op rd : Bool) (b : BT) (ys' : List Int) (there : Bool) : Prop where
  rdy : rd = decide (ys'.length = N)
  yes : rd = true → b.1.length = N ∧ s' = none
  no : rd = false → CI N s' ∧ cxs s' = ys' ∧ b = ([], [])
  opn : op = (decide (ys'.length = 1) && !there)
theorem full_step {N : Nat} (hN : 1 ≤ N) {s : CSt} (h : CI N s) (id arg : Int) {there : Bool} (ht : decide (idx (cxs s) arg < (cxs s).length) = there) {s' : CSt} {op rd : Bool} {due : Int} {b : BT} (hadd : cadd 1000 (N : Int) s 0 id arg = (s', op, rd, due, b)) :
    FullStep N s s' arg op rd b (if there then cxs s else cxs s ++ [arg]) there := by
  cases s with
  | none =>
    have : there = false := by rw [← ht]; simp [cxs]
    subst this
    unfold cadd cput at hadd
    simp only at hadd
    by_cases hr : (N : Int) ≤ ((([arg], [(id, 0)]) : BT).1.length : Int)
    · rw [if_pos hr] at hadd
      simp only [Prod.mk.injEq] at hadd
      obtain ⟨rfl, rfl, rfl, rfl, rfl⟩ := hadd
      have hN1 : N = 1 := by simp at hr; omega
      subst hN1
      exact ⟨by simp [cxs], fun _ => ⟨rfl, rfl⟩, (fun h => by cases h), by simp [cxs]⟩
    · rw [if_neg hr] at hadd
      simp only [Prod.mk.injEq] at hadd
      obtain ⟨rfl, rfl, rfl, rfl, rfl⟩ := hadd
      have hN1 : 1 < N := by simp at hr; omega
      exact ⟨by simp [cxs]; omega, (fun h => by cases h), (fun _ => ⟨⟨by simp, by simpa using hN1⟩, rfl, rfl⟩), by simp [cxs]⟩
  | some be =>
    obtain ⟨⟨xs, ms⟩, e⟩ := be
    obtain ⟨h1, h2⟩ := h
    simp only at h1 h2
    simp only [cxs] at ht ⊢
    unfold cadd cput badd at hadd
    simp only at hadd
    by_cases hi : idx xs arg < xs.length
    · have : there = true := by rw [← ht]; exact decide_eq_true hi
      subst this
      rw [if_pos hi] at hadd
      rw [if_neg (by simp only; omega)] at hadd
      simp only [Prod.mk.injEq] at hadd
      obtain ⟨rfl, rfl, rfl, rfl, rfl⟩ := hadd
      exact ⟨by simp; omega, (fun h => by cases h), (fun _ => ⟨⟨h1, h2⟩, rfl, rfl⟩), by simp⟩
    · have : there = false := by rw [← ht]; exact decide_eq_false hi
      subst this
      rw [if_neg hi, if_neg (show ¬ (N : Int) ≤ (xs.length : Int) by omega)] at hadd
      simp only at hadd
      have hlen : (xs ++ [arg]).length = xs.length + 1 := by simp
      by_cases hr : (N : Int) ≤ (((xs ++ [arg]).length : Nat) : Int)
      · rw [if_pos hr] at hadd
        simp only [Prod.mk.injEq] at hadd
        obtain ⟨rfl, rfl, rfl, rfl, rfl⟩ := hadd
        have hl : (xs ++ [arg]).length = N := by simp at hr ⊢; omega
        exact ⟨by simp only [Bool.false_eq_true, if_false]; rw [hl]; simp, fun _ => ⟨hl, rfl⟩, (fun h => by cases h), by simp only [Bool.false_eq_true, if_false]; rw [hlen, decide_eq_false (show ¬ (xs.length + 1 = 1) by omega)]; rfl⟩
      · rw [if_neg hr] at hadd
        simp only [Prod.mk.injEq] at hadd
        obtain ⟨rfl, rfl, rfl, rfl, rfl⟩ := hadd
        have hl : (xs ++ [arg]).length < N := by simp at hr ⊢; omega
        exact ⟨by simp only [Bool.false_eq_true, if_false]; rw [hlen] at hl ⊢; simp; omega, (fun h => by cases h), (fun _ => ⟨⟨by simp, hl⟩, rfl, rfl⟩), by simp only [Bool.false_eq_true, if_false]; rw [hlen, decide_eq_false (show ¬ (xs.length + 1 = 1) by omega)]; rfl⟩
theorem infoF : (Try.prog.info? 3).map (fun i => (i.zero, i.size, i.bytes)) = some (some (.int .i64 0), 1, 8) := by kernel_rfl
theorem ci_args {N : Nat} {s : CSt} (hN : N ≤ 4) (h : CI N s) : cargs s ≤ 4 := by
  cases s with
  | none => simp [cargs]
  | some be => obtain ⟨b, e⟩ := be; obtain ⟨h1, h2⟩ := h; simp only [cargs]; omega
set_option maxRecDepth 100000 in
set_option maxHeartbeats 4000000 in
theorem cfull_any (L : Option Addr) (len cap : Nat) (l : List D4) (hl : l.length = len) (hm : len ≤ 9223372036854775807) (hwf : Wd l) (a0 : Int) (h0 : 0 ≤ a0) (h1 : a0 ≤ 255) (w : World) (hs : Sl w L len cap (fl d4 l)) :
    Calls Try.prog 6 #[.int .u8 a0, .slice L len cap] w fun e w' => e = .returned (.bool true) ∧ Below w.heap.size w w' := by
  have HL := Lib.hid hl
  have HS := Lib.hid hs
  have HWF := Lib.hid hwf
  clear hl hs hwf
  have HMO := Lib.hid (most_of h0 h1)
  obtain ⟨k0, kj, kz0, kz1, kz2⟩ := info_parts infoF
  clear h0 h1
  go_enter Try.func6, Try.ntmps6
  go_wp2_with fail
  refine (awake_any _).mono ?_
  rintro e_ w0 ⟨rfl, hd⟩
  have HU0 := Lib.hid (Upd.of_below hd (fun _ => False))
  clear hd
  go_wp2_with fail
  obtain ⟨N, hN, hN1, hN4⟩ := HMO.out
  rw [hN]
  clear HMO hN
  have n1 : (1 : Int) ≤ (N : Int) := by omega
  have n4 : (N : Int) ≤ 4 := by omega
  refine (new_yes (win := 1000) (most := (N : Int)) ⟨by decide, by decide, n1, n4⟩ _).mono ?_
  rintro e_ w1 ⟨g, rfl, hi, hg, hd⟩
  have CW1 := Lib.hid (CW.start hi HU0.out hg hd)
  have HW : Hid (W64 1000) := Lib.hid ⟨by decide, by decide⟩
  have HW0 : Hid (W64 0) := Lib.hid ⟨by decide, by decide⟩
  clear hi hg hd HU0
  go_wp2_with fail
  go_loopw [8, 9] (fun av iv wr => ∃ (k : Nat) (F : Nat → Prop) (p : Option Nat) (s : CSt) (V : Option Addr) (a vc : Nat), k ≤ len ∧ k ≤ 100 ∧ iv = .int .i64 k ∧ av = .slice V a vc ∧ Hid (CI N s) ∧ Hid (cmem s ≤ k) ∧ Hid ((cxs s).length = a) ∧ Hid (CW w wr F g p 1000 (N : Int) s) ∧ Hid (wr.ownsRow w.heap.size 3 1 (.slice V a vc) a (nums (cxs s))) ∧ Hid (∀ b_, (.slice V a vc : Value).ownBlock = some b_ → F b_)) (fun _ iv _ => 100 - (intOf iv).toNat)
  case atStart => exact ⟨0, _, _, none, none, 0, 0, Nat.zero_le _, Nat.zero_le _, rfl, rfl, Lib.hid trivial, Lib.hid (Nat.zero_le _), Lib.hid rfl, CW1, Lib.hid (own_nil _ _ _ _), Lib.hid (fun b_ h => by simp [Value.ownBlock] at h)⟩
  case round =>
    obtain ⟨k, F, p, s, V, a, vc, hk, hk2, rfl, rfl, HCI, HCM, HAL, CWr, OW, OM⟩ := hrel
    by_cases hlt1 : k < len
    · by_cases hlt2 : k < 100
      · skip
        obtain ⟨x, hx⟩ : ∃ x, l[k]? = some x := ⟨l[k]'(by rw [HL.out]; exact hlt1), List.getElem?_eq_getElem _⟩
        have hxw := HWF.out x (List.mem_of_getElem? hx)
        have HXW : Hid (W64 x.2.2.2) := Lib.hid hxw
        have HX := Lib.hid hx
        obtain ⟨b, of, e, hb, hc⟩ := (CWr.out.old HS.out).sl.row d4_len (by decide) hx
        obtain ⟨b0, of0, e0, hb0, hc0⟩ := HS.out.row d4_len (by decide) hx
        rw [e] at e0
        injection e0 with e0
        injection e0 with e1 e2
        subst e1 e2 e
        have f0 := hc 0 _ rfl
        have f1 := hc 1 _ rfl
        have f2 := hc 2 _ rfl
        have f3 := hc 3 _ rfl
        simp only [← Nat.add_assoc, Nat.add_zero] at f0 f1 f2 f3
        have HB0 : Hid (∀ W, Upd (fun _ => False) w W → (∀ j v, (d4 x)[j]? = some v → W.cell? ⟨b, of + (k * 4 + j), none⟩ = some v)) := Lib.hid (fun W hu j v hv => (hu.cellq (p := ⟨b, of + (k * 4 + j), none⟩) hb0 (fun h => h)).trans (hc0 j v hv))
        obtain ⟨kd, id, arg, t⟩ := x
        simp only at HXW
        replace f0 : wr.cell? ⟨b, of + k * 4, none⟩ = some (.int .i64 kd) := f0
        replace f1 : wr.cell? ⟨b, of + k * 4 + 1, none⟩ = some (.int .i64 id) := f1
        replace f2 : wr.cell? ⟨b, of + k * 4 + 2, none⟩ = some (.int .i64 arg) := f2
        replace f3 : wr.cell? ⟨b, of + k * 4 + 3, none⟩ = some (.int .u64 t) := f3
        have i0 : (0 : Int) ≤ (k : Int) := Int.natCast_nonneg _
        have i1 : (k : Int) < (len : Int) := by omega
        have i2 : (k : Int) < 100 := by omega
        clear hx hxw hc hc0
        have ha4 : a ≤ 3 := by
          have h1 := HCI.out
          have h2 := HAL.out
          cases s with
          | none => simp [cxs] at h2; omega
          | some be => obtain ⟨b_, e_⟩ := be; obtain ⟨h3, h4⟩ := h1; simp only [cxs] at h2; omega
        go_wp2_with fail
        go_loopw [10, 11] (fun tv jv w2 => ∃ (j : Nat), j ≤ a ∧ jv = .int .i64 j ∧ tv = .bool (thr (cxs s) arg j) ∧ Hid (Upd (fun _ => False) wr w2)) (fun _ jv _ => a - (intOf jv).toNat)
        case atStart => exact ⟨0, Nat.zero_le _, rfl, by rw [thr_zero], Lib.hid (Upd.refl _ _)⟩
        case round =>
          obtain ⟨j, hj, rfl, rfl, hu2⟩ := hrel
          have CWs := Lib.hid (CWr.out.keep0 hu2.out)
          have OWs := Lib.hid (own_upd0 OW.out hu2.out)
          have HS' : Hid (wr.heap.size ≤ wr.heap.size) := Lib.hid (Nat.le_refl _)
          by_cases hja : j < a
          · obtain ⟨y, hy⟩ : ∃ y, (cxs s)[j]? = some y := ⟨(cxs s)[j]'(by rw [HAL.out]; exact hja), List.getElem?_eq_getElem _⟩
            have HSU := Lib.hid (thr_succ (a := arg) hy)
            obtain ⟨V2, vc2, e, hsv, _⟩ := Sl.of_own OWs.out
            injection e with e1 e2 e3
            subst e1
            subst e3
            obtain ⟨vb, vo, ev, hvb, hvc⟩ := hsv.num hy
            have EV := Lib.hid ev
            have hu3 := CWs.out.upd
            have j0 : (0 : Int) ≤ (j : Int) := Int.natCast_nonneg _
            have j1 : (j : Int) < (a : Int) := by omega
            clear hy hsv ev
            generalize hth : thr (cxs s) arg j = tb at *
            have HTH := Lib.hid hth
            clear hth
            cases tb with
            | true =>
              clear hvc hu3
              go_wp2_with fail
              go_quiet (fail)
              go_wp2
              go_roundw
              case rel => exact ⟨j + 1, by omega, by go_num, by rw [HSU.out]; rfl, Lib.hid (hu2.out.drewN _)⟩
              case measure => simp [intOf]; omega
            | false =>
              rw [EV.out]
              have q2_ : wr.cell? ⟨b, of + k * 4 + 2, none⟩ = some (.int .i64 arg) := HB0.out wr hu3 2 _ rfl
              clear hu3
              go_wp2_with fail
              go_quiet (fail)
              go_wp2
              go_roundw
              case rel => exact ⟨j + 1, by omega, by go_num, by rw [HSU.out]; simp, Lib.hid (hu2.out.drewN _)⟩
              case measure => simp [intOf]; omega
          · obtain rfl : a = j := by omega
            have HTI : Hid (thr (cxs s) arg a = decide (idx (cxs s) arg < (cxs s).length)) := Lib.hid (by
              have h := thr_idx (cxs s) arg
              rw [HAL.out] at h ⊢
              exact h)
            obtain ⟨tb, htb⟩ : ∃ tb, thr (cxs s) arg a = tb := ⟨_, rfl⟩
            obtain ⟨s', op, rd, due, bb, hadd⟩ : ∃ s' op rd due bb, cadd 1000 (N : Int) s 0 id arg = (s', op, rd, due, bb) := ⟨_, _, _, _, _, rfl⟩
            have FST := Lib.hid (full_step hN1 HCI.out id arg (HTI.out.symm.trans htb) hadd)
            have HMM : Hid (cmem s' ≤ k + 1) := Lib.hid (by
              have h := (cadd_mem 1000 (N : Int) s 0 id arg).1
              rw [hadd] at h
              exact Nat.le_trans h (Nat.succ_le_succ HCM.out))
            have HADD := Lib.hid hadd
            obtain ⟨nb, hnb⟩ : ∃ x, bb.1.length = x := ⟨_, rfl⟩
            obtain ⟨mb, hmb⟩ : ∃ x, bb.2.length = x := ⟨_, rfl⟩
            have HNB := Lib.hid hnb
            have HMB := Lib.hid hmb
            have hcm9 : cmem s ≤ 900 := by have := HCM.out; omega
            have hca9 : cargs s ≤ 900 := by have := ci_args hN4 HCI.out; omega
            have q1_ : wr.cell? ⟨b, of + k * 4 + 1, none⟩ = some (.int .i64 id) := HB0.out wr CWs.out.upd 1 _ rfl
            have q2_ : wr.cell? ⟨b, of + k * 4 + 2, none⟩ = some (.int .i64 arg) := HB0.out wr CWs.out.upd 2 _ rfl
            have hbw : b < wr.heap.size := Nat.lt_of_lt_of_le hb hu2.out.size
            rw [htb]
            clear hadd hnb hmb htb HTI HS' hu2 OW hb
            have hb := hbw
            clear hbw
            cases tb with
            | true =>
              have OW := OWs
              clear OWs
              go_wp2_with fail
              refine (show PLift ?CutT → _ from fun hcut => ?mainT) ⟨?pfT⟩
              case mainT =>
                go_region_held3 (fun w' => w'.cell? ⟨b, of + k * 4 + 1, none⟩ = some (.int .i64 id) ∧ w'.cell? ⟨b, of + k * 4 + 2, none⟩ = some (.int .i64 arg)) (go_keep) (first | (go_at_call 13; have CWa := Lib.hid (CWs.out.grow (F' := (Pl F wr.heap.size)) (((Upd.refl (fun _ => False) wr).alloc (.cells zs 42)).drew) (pl_new wr (.cells zs 42)) (fun _ h => .inl h)); have BAa := Lib.hid ((Blk.new wr zs 42).drew); have OWa := Lib.hid (own_upd0 OW.out (((Upd.refl (fun _ => False) wr).alloc (.cells zs 42)).drew)); have OMa : Hid (∀ b_, (.slice V a vc : Value).ownBlock = some b_ → (Pl F wr.heap.size) b_) := Lib.hid (fun b_ h_ => .inl (OM.out b_ h_)); (with_reducible refine (cadd_to (n := nb) (m := mb) HADD.out HNB.out HMB.out HW.out (fun _ => HW0.out) hcm9 hca9 CWa.out.isC).mono ?_); rintro e_ wC ⟨p6, A6, c6, M6, d6, rfl, hp⟩; have CWC := Lib.hid (CWa.out.next hp); have BAC := Lib.hid (CWa.out.blk hp BAa.out (by decide) (by decide)); have KAC : Hid (Kp wC (Nx (Pl F wr.heap.size) p6) A6 nb c6 (nums bb.1)) := Lib.hid hp.ka; have KMC : Hid (Kp wC (Nx (Pl F wr.heap.size) p6) M6 mb d6 (prs bb.2)) := Lib.hid hp.km; have OWC := Lib.hid (CWa.out.own hp OWa.out (by decide) (by decide)); have OMC : Hid (∀ b_, (.slice V a vc : Value).ownBlock = some b_ → (Nx (Pl F wr.heap.size) p6) b_) := Lib.hid (fun b_ h_ => .inl (OMa.out b_ h_)); have g1 : wC.cell? ⟨b, of + k * 4 + 1, none⟩ = some (.int .i64 id) := HB0.out wC CWC.out.upd 1 _ rfl; have g2 : wC.cell? ⟨b, of + k * 4 + 2, none⟩ = some (.int .i64 arg) := HB0.out wC CWC.out.upd 2 _ rfl; have y1 := BAC.out.lt; have y2 := BAC.out.frz; have y3 : ∀ (W : World) (i j : Nat) (u : Value), (W.setCell ⟨wr.heap.size, j, none⟩ u).cell? ⟨b, i, none⟩ = W.cell? ⟨b, i, none⟩ := cell_far (Nat.ne_of_lt hb); have z0 : wC.cell? ⟨wr.heap.size, 0, none⟩ = some (.bool false) := BAC.out.cell 0; have z1 : wC.cell? ⟨wr.heap.size, 1, none⟩ = some (.bool false) := BAC.out.cell 1; have z2 : wC.cell? ⟨wr.heap.size, 2, none⟩ = some (.int .u64 0) := BAC.out.cell 2; have z3 : wC.cell? ⟨wr.heap.size, 3, none⟩ = some (.slice none 0 0) := BAC.out.cell 3; have z4 : wC.cell? ⟨wr.heap.size, 4, none⟩ = some (.slice none 0 0) := BAC.out.cell 4; clear hp OWa OMa) | (go_at_call 13; have CWa := Lib.hid (CWs.out.keep0 ((Upd.refl (fun _ => False) wr).drew)); have OWa := Lib.hid (own_upd0 OW.out ((Upd.refl (fun _ => False) wr).drew)); have OMa : Hid (∀ b_, (.slice V a vc : Value).ownBlock = some b_ → F b_) := Lib.hid (OM.out); (with_reducible refine (cadd_to (n := nb) (m := mb) HADD.out HNB.out HMB.out HW.out (fun _ => HW0.out) hcm9 hca9 CWa.out.isC).mono ?_); rintro e_ wC ⟨p6, A6, c6, M6, d6, rfl, hp⟩; have CWC := Lib.hid (CWa.out.next hp); have KAC : Hid (Kp wC (Nx F p6) A6 nb c6 (nums bb.1)) := Lib.hid hp.ka; have KMC : Hid (Kp wC (Nx F p6) M6 mb d6 (prs bb.2)) := Lib.hid hp.km; have OWC := Lib.hid (CWa.out.own hp OWa.out (by decide) (by decide)); have OMC : Hid (∀ b_, (.slice V a vc : Value).ownBlock = some b_ → (Nx F p6) b_) := Lib.hid (fun b_ h_ => .inl (OMa.out b_ h_)); have g1 : wC.cell? ⟨b, of + k * 4 + 1, none⟩ = some (.int .i64 id) := HB0.out wC CWC.out.upd 1 _ rfl; have g2 : wC.cell? ⟨b, of + k * 4 + 2, none⟩ = some (.int .i64 arg) := HB0.out wC CWC.out.upd 2 _ rfl; clear hp OWa OMa))
                all_goals first
                  | (rename_i hh_
                     have CW6 : Hid (CW w (wC.alloc (.cells #[.bool op, .bool rd, .int .u64 due, .slice A6 nb c6, .slice M6 mb d6] 42)) (Pl (Nx F p6) wC.heap.size) g p6 1000 (N : Int) (s')) := Lib.hid (CWC.out.grow ((Upd.refl (fun _ => False) wC).alloc (.cells #[.bool op, .bool rd, .int .u64 due, .slice A6 nb c6, .slice M6 mb d6] 42)) (pl_new' wC (.cells #[.bool op, .bool rd, .int .u64 due, .slice A6 nb c6, .slice M6 mb d6] 42)) (fun _ h => .inl h))
                     have KA6 : Hid (Kp (wC.alloc (.cells #[.bool op, .bool rd, .int .u64 due, .slice A6 nb c6, .slice M6 mb d6] 42)) (Pl (Nx F p6) wC.heap.size) A6 nb c6 (nums bb.1)) := Lib.hid (KAC.out.grow ((Upd.refl (fun _ => False) wC).alloc (.cells #[.bool op, .bool rd, .int .u64 due, .slice A6 nb c6, .slice M6 mb d6] 42)) (pl_new' wC (.cells #[.bool op, .bool rd, .int .u64 due, .slice A6 nb c6, .slice M6 mb d6] 42)))
                     have KM6 : Hid (Kp (wC.alloc (.cells #[.bool op, .bool rd, .int .u64 due, .slice A6 nb c6, .slice M6 mb d6] 42)) (Pl (Nx F p6) wC.heap.size) M6 mb d6 (prs bb.2)) := Lib.hid (KMC.out.grow ((Upd.refl (fun _ => False) wC).alloc (.cells #[.bool op, .bool rd, .int .u64 due, .slice A6 nb c6, .slice M6 mb d6] 42)) (pl_new' wC (.cells #[.bool op, .bool rd, .int .u64 due, .slice A6 nb c6, .slice M6 mb d6] 42)))
                     have B6 : Hid (Blk (wC.alloc (.cells #[.bool op, .bool rd, .int .u64 due, .slice A6 nb c6, .slice M6 mb d6] 42)) wC.heap.size 42 #[.bool op, .bool rd, .int .u64 due, .slice A6 nb c6, .slice M6 mb d6]) := Lib.hid (Blk.new wC #[.bool op, .bool rd, .int .u64 due, .slice A6 nb c6, .slice M6 mb d6] 42)
                     have OW6 : Hid ((wC.alloc (.cells #[.bool op, .bool rd, .int .u64 due, .slice A6 nb c6, .slice M6 mb d6] 42)).ownsRow (w.heap.size) 3 1 (.slice V a vc) (a) (nums (cxs s))) := Lib.hid (own_alloc OWC.out _)
                     have OM6 : Hid (∀ b_, (.slice V a vc : Value).ownBlock = some b_ → (Pl (Nx F p6) wC.heap.size) b_) := Lib.hid (fun b_ h_ => .inl (OMC.out b_ h_))
                     have PF6 : Hid ((Pl (Nx F p6) wC.heap.size) wC.heap.size) := Lib.hid (.inr rfl)
                     clear hh_ CWC KAC KMC CWa g1 g2 OWC OMC
                     generalize (wC.alloc (.cells #[.bool op, .bool rd, .int .u64 due, .slice A6 nb c6, .slice M6 mb d6] 42)) = W6 at CW6 KA6 KM6 B6 OW6 ⊢
                     generalize (Pl (Nx F p6) wC.heap.size) = F6 at CW6 KA6 KM6 PF6 OM6
                     generalize wC.heap.size = ga at B6 PF6 ⊢
                     revert PF6
                     revert OM6
                     revert OW6
                     revert B6
                     revert KM6
                     revert KA6
                     revert CW6
                     revert ga F6 W6 d6 M6 c6 A6 p6
                     exact hcut.down)
                  | (rename_i hh_
                     have hn_ : ∀ k, Fr2 g p6 k → ¬ At wr.heap.size k := fun k hk h1 => CWC.out.isC.ne_blk BAC.out (by decide) (by decide) (show Fr2 g p6 wr.heap.size from h1 ▸ hk)
                     have hw_ : Upd (At wr.heap.size) wC (((((wC.setCell ⟨wr.heap.size, 0, none⟩ (.bool op)).setCell ⟨wr.heap.size, 1, none⟩ (.bool rd)).setCell ⟨wr.heap.size, 2, none⟩ (.int .u64 due)).setCell ⟨wr.heap.size, 3, none⟩ (.slice A6 nb c6)).setCell ⟨wr.heap.size, 4, none⟩ (.slice M6 mb d6)) := Upd.w5 (.bool op) (.bool rd) (.int .u64 due) (.slice A6 nb c6) (.slice M6 mb d6) (Upd.refl _ _) (.inl rfl)
                     have CW6 : Hid (CW w (((((wC.setCell ⟨wr.heap.size, 0, none⟩ (.bool op)).setCell ⟨wr.heap.size, 1, none⟩ (.bool rd)).setCell ⟨wr.heap.size, 2, none⟩ (.int .u64 due)).setCell ⟨wr.heap.size, 3, none⟩ (.slice A6 nb c6)).setCell ⟨wr.heap.size, 4, none⟩ (.slice M6 mb d6)) (Nx (Pl F wr.heap.size) p6) g p6 1000 (N : Int) (s')) := Lib.hid (CWC.out.write hw_ (fun k hk => .inl (.inr hk)) hn_)
                     have KA6 : Hid (Kp (((((wC.setCell ⟨wr.heap.size, 0, none⟩ (.bool op)).setCell ⟨wr.heap.size, 1, none⟩ (.bool rd)).setCell ⟨wr.heap.size, 2, none⟩ (.int .u64 due)).setCell ⟨wr.heap.size, 3, none⟩ (.slice A6 nb c6)).setCell ⟨wr.heap.size, 4, none⟩ (.slice M6 mb d6)) (Nx (Pl F wr.heap.size) p6) A6 nb c6 (nums bb.1)) := Lib.hid (KAC.out.keep hw_ (fun k hk => .inl (.inr hk)))
                     have KM6 : Hid (Kp (((((wC.setCell ⟨wr.heap.size, 0, none⟩ (.bool op)).setCell ⟨wr.heap.size, 1, none⟩ (.bool rd)).setCell ⟨wr.heap.size, 2, none⟩ (.int .u64 due)).setCell ⟨wr.heap.size, 3, none⟩ (.slice A6 nb c6)).setCell ⟨wr.heap.size, 4, none⟩ (.slice M6 mb d6)) (Nx (Pl F wr.heap.size) p6) M6 mb d6 (prs bb.2)) := Lib.hid (KMC.out.keep hw_ (fun k hk => .inl (.inr hk)))
                     have B6 : Hid (Blk (((((wC.setCell ⟨wr.heap.size, 0, none⟩ (.bool op)).setCell ⟨wr.heap.size, 1, none⟩ (.bool rd)).setCell ⟨wr.heap.size, 2, none⟩ (.int .u64 due)).setCell ⟨wr.heap.size, 3, none⟩ (.slice A6 nb c6)).setCell ⟨wr.heap.size, 4, none⟩ (.slice M6 mb d6)) wr.heap.size 42 #[.bool op, .bool rd, .int .u64 due, .slice A6 nb c6, .slice M6 mb d6]) := Lib.hid (Blk.w5 (.bool op) (.bool rd) (.int .u64 due) (.slice A6 nb c6) (.slice M6 mb d6) BAC.out)
                     have OW6 : Hid ((((((wC.setCell ⟨wr.heap.size, 0, none⟩ (.bool op)).setCell ⟨wr.heap.size, 1, none⟩ (.bool rd)).setCell ⟨wr.heap.size, 2, none⟩ (.int .u64 due)).setCell ⟨wr.heap.size, 3, none⟩ (.slice A6 nb c6)).setCell ⟨wr.heap.size, 4, none⟩ (.slice M6 mb d6)).ownsRow (w.heap.size) 3 1 (.slice V a vc) (a) (nums (cxs s))) := Lib.hid (own_upd OWC.out hw_ (fun b_ hb_ h1_ => own_sep OWC.out BAC.out (by decide) (by rw [hb_, show b_ = wr.heap.size from h1_])))
                     have OM6 : Hid (∀ b_, (.slice V a vc : Value).ownBlock = some b_ → (Nx (Pl F wr.heap.size) p6) b_) := Lib.hid (OMC.out)
                     have PF6 : Hid ((Nx (Pl F wr.heap.size) p6) wr.heap.size) := Lib.hid (.inl (.inr rfl))
                     clear hh_ CWC KAC KMC CWa g1 g2 OWC OMC BAC hn_ hw_ y1 y2 z0 z1 z2 z3 z4
                     generalize (((((wC.setCell ⟨wr.heap.size, 0, none⟩ (.bool op)).setCell ⟨wr.heap.size, 1, none⟩ (.bool rd)).setCell ⟨wr.heap.size, 2, none⟩ (.int .u64 due)).setCell ⟨wr.heap.size, 3, none⟩ (.slice A6 nb c6)).setCell ⟨wr.heap.size, 4, none⟩ (.slice M6 mb d6)) = W6 at CW6 KA6 KM6 B6 OW6 ⊢
                     generalize (Nx (Pl F wr.heap.size) p6) = F6 at CW6 KA6 KM6 PF6 OM6
                     generalize wr.heap.size = ga at B6 PF6 ⊢
                     revert PF6
                     revert OM6
                     revert OW6
                     revert B6
                     revert KM6
                     revert KA6
                     revert CW6
                     revert ga F6 W6 d6 M6 c6 A6 p6
                     exact hcut.down)
              case pfT =>
                intro p6 A6 c6 M6 d6 W6 F6 ga CW6 KA6 KM6 B6 OW6 OM6 PF6
                have c0_ : W6.cell? ⟨ga, 0, none⟩ = some (.bool op) := B6.out.cell 0
                have c1_ : W6.cell? ⟨ga, 1, none⟩ = some (.bool rd) := B6.out.cell 1
                have c2_ : W6.cell? ⟨ga, 2, none⟩ = some (.int .u64 due) := B6.out.cell 2
                have c3_ : W6.cell? ⟨ga, 3, none⟩ = some (.slice A6 nb c6) := B6.out.cell 3
                have c4_ : W6.cell? ⟨ga, 4, none⟩ = some (.slice M6 mb d6) := B6.out.cell 4
                have hrd := FST.out.rdy
                have hop := FST.out.opn
                simp only [if_true, if_false] at hrd hop
                rw [HAL.out] at hrd hop
                have HRD := Lib.hid hrd
                have HOP := Lib.hid hop
                clear hrd hop
                by_cases hrd : rd = true
                · subst hrd
                  obtain rfl : op = false := by have := HOP.out; simpa using this
                  by_cases n2_ : ((a : Int) == 1) = true
                  · obtain rfl : a = N := by have := HRD.out; simpa using this
                    obtain rfl : a = nb := by rw [← HNB.out]; exact (FST.out.yes rfl).1.symm
                    go_wp2
                    go_roundw
                    case rel => exact ⟨k + 1, F6, p6, s', none, 0, 0, by omega, by omega, by go_num, rfl, Lib.hid (by rw [(FST.out.yes rfl).2]; trivial), HMM, Lib.hid (by rw [(FST.out.yes rfl).2]; rfl), Lib.hid (CW6.out), Lib.hid (by rw [(FST.out.yes rfl).2]; exact own_nil _ _ _ _), Lib.hid (fun b_ h_ => by simp [Value.ownBlock] at h_)⟩
                    case measure => simp [intOf]; omega
                  · have n2_ : ((a : Int) == 1) = false := by simpa using n2_
                    obtain rfl : a = N := by have := HRD.out; simpa using this
                    obtain rfl : a = nb := by rw [← HNB.out]; exact (FST.out.yes rfl).1.symm
                    go_wp2
                    go_roundw
                    case rel => exact ⟨k + 1, F6, p6, s', none, 0, 0, by omega, by omega, by go_num, rfl, Lib.hid (by rw [(FST.out.yes rfl).2]; trivial), HMM, Lib.hid (by rw [(FST.out.yes rfl).2]; rfl), Lib.hid (CW6.out), Lib.hid (by rw [(FST.out.yes rfl).2]; exact own_nil _ _ _ _), Lib.hid (fun b_ h_ => by simp [Value.ownBlock] at h_)⟩
                    case measure => simp [intOf]; omega
                · obtain rfl : rd = false := by simpa using hrd
                  clear hrd
                  obtain rfl : op = false := by have := HOP.out; simpa using this
                  by_cases n2_ : ((a : Int) == 1) = true
                  · have n1_ : ((a : Int) == (N : Int)) = false := by have := HRD.out; simp at this ⊢; omega
                    go_wp2
                    go_roundw
                    case rel => exact ⟨k + 1, F6, p6, s', V, a, vc, by omega, by omega, by go_num, rfl, Lib.hid (FST.out.no rfl).1, HMM, Lib.hid (by rw [(FST.out.no rfl).2.1]; simp [HAL.out]), CW6, Lib.hid (by rw [(FST.out.no rfl).2.1]; exact OW6.out), OM6⟩
                    case measure => simp [intOf]; omega
                  · have n2_ : ((a : Int) == 1) = false := by simpa using n2_
                    have n1_ : ((a : Int) == (N : Int)) = false := by have := HRD.out; simp at this ⊢; omega
                    go_wp2
                    go_roundw
                    case rel => exact ⟨k + 1, F6, p6, s', V, a, vc, by omega, by omega, by go_num, rfl, Lib.hid (FST.out.no rfl).1, HMM, Lib.hid (by rw [(FST.out.no rfl).2.1]; simp [HAL.out]), CW6, Lib.hid (by rw [(FST.out.no rfl).2.1]; exact OW6.out), OM6⟩
                    case measure => simp [intOf]; omega
            | false =>
              have CW5 := Lib.hid (CWs.out.keep0 ((Upd.refl (fun _ => False) wr).alloc (.cells #[.int .i64 arg] 3)))
              have OW5 := Lib.hid (own_alloc OWs.out (.cells #[.int .i64 arg] 3))
              have hwr : w.heap.size ≤ wr.heap.size := CWs.out.upd.size
              go_wp2_with (at_builtin; go_loud (refine wpList_append_lies _ rfl _ _ 27 rfl w.heap.size 3 k0 (.int .i64 0) 1 8 Try.underlying27 kj kz0 kz1 kz2 rfl (by decide) (.slice V a vc) a (nums (cxs s)) rfl OW5.out ⟨wr.heap.size, 0, none⟩ 1 1 [.int .i64 arg] rfl rfl (Blk.new wr #[.int .i64 arg] 3).news ?c5 (by omega) ?c7 ?c8 ?c9 (wr.heap.size + 1) (by simp) ?_); (case c5 => intro u hu; simp at hu; subst hu; rfl); (case c7 => unfold maxLen; omega); (case c8 => omega); (case c9 => simp; omega); intro gg cp w7 hown hgrow hat hlt; have OW : Hid (w7.ownsRow w.heap.size 3 1 (.slice (some ⟨gg, 0, none⟩) (a + 1) cp) (a + 1) (nums (cxs s ++ [arg]))) := Lib.hid (by rw [nums_app]; exact hown); have CW7 : Hid (CW w w7 (Pl F gg) g p 1000 (N : Int) s) := Lib.hid (CW5.out.wg (Upd.of_grown hgrow) (fun k_ hk_ => OM.out k_ hk_) (fun k_ hk_ h1_ => CW5.out.isC.ne_own OW5.out (by decide) (by decide) k_ h1_ hk_) (fun k_ hk_ => hk_.elim .inl (fun e_ => by subst e_; exact hat.elim (fun h_ => .inl (OM.out _ h_)) (fun h_ => .inr ⟨by rw [h_, World.size_alloc]; exact Nat.le_refl _, hlt⟩))) (fun _ h_ => .inl h_)); have OM7 : Hid (∀ b_, (.slice (some ⟨gg, 0, none⟩) (a + 1) cp : Value).ownBlock = some b_ → Pl F gg b_) := Lib.hid (fun b_ h_ => .inr (by simpa [Value.ownBlock] using h_.symm)); have hb7 : b < w7.heap.size := Nat.lt_of_lt_of_le hb (Nat.le_trans (by simp) (Upd.of_grown hgrow).size); have q1_ : w7.cell? ⟨b, of + k * 4 + 1, none⟩ = some (.int .i64 id) := HB0.out w7 CW7.out.upd 1 _ rfl; have q2_ : w7.cell? ⟨b, of + k * 4 + 2, none⟩ = some (.int .i64 arg) := HB0.out w7 CW7.out.upd 2 _ rfl; clear hown hgrow hat hlt CW5 OW5)
              clear hb OWs OM CWs
              have hb := hb7
              have OM := OM7
              clear hb7 OM7
              generalize Pl F gg = F7 at CW7 OM
              refine (show PLift ?CutG → _ from fun hcut => ?mainG) ⟨?pfG⟩
              case mainG =>
                go_region_held3 (fun w' => w'.cell? ⟨b, of + k * 4 + 1, none⟩ = some (.int .i64 id) ∧ w'.cell? ⟨b, of + k * 4 + 2, none⟩ = some (.int .i64 arg)) (go_keep) (first | (go_at_call 13; have CWa := Lib.hid (CW7.out.grow (F' := (Pl F7 w7.heap.size)) (((Upd.refl (fun _ => False) w7).alloc (.cells zs 42)).drew) (pl_new w7 (.cells zs 42)) (fun _ h => .inl h)); have BAa := Lib.hid ((Blk.new w7 zs 42).drew); have OWa := Lib.hid (own_upd0 OW.out (((Upd.refl (fun _ => False) w7).alloc (.cells zs 42)).drew)); have OMa : Hid (∀ b_, (.slice (some ⟨gg, 0, none⟩) (a + 1) cp : Value).ownBlock = some b_ → (Pl F7 w7.heap.size) b_) := Lib.hid (fun b_ h_ => .inl (OM.out b_ h_)); (with_reducible refine (cadd_to (n := nb) (m := mb) HADD.out HNB.out HMB.out HW.out (fun _ => HW0.out) hcm9 hca9 CWa.out.isC).mono ?_); rintro e_ wC ⟨p6, A6, c6, M6, d6, rfl, hp⟩; have CWC := Lib.hid (CWa.out.next hp); have BAC := Lib.hid (CWa.out.blk hp BAa.out (by decide) (by decide)); have KAC : Hid (Kp wC (Nx (Pl F7 w7.heap.size) p6) A6 nb c6 (nums bb.1)) := Lib.hid hp.ka; have KMC : Hid (Kp wC (Nx (Pl F7 w7.heap.size) p6) M6 mb d6 (prs bb.2)) := Lib.hid hp.km; have OWC := Lib.hid (CWa.out.own hp OWa.out (by decide) (by decide)); have OMC : Hid (∀ b_, (.slice (some ⟨gg, 0, none⟩) (a + 1) cp : Value).ownBlock = some b_ → (Nx (Pl F7 w7.heap.size) p6) b_) := Lib.hid (fun b_ h_ => .inl (OMa.out b_ h_)); have g1 : wC.cell? ⟨b, of + k * 4 + 1, none⟩ = some (.int .i64 id) := HB0.out wC CWC.out.upd 1 _ rfl; have g2 : wC.cell? ⟨b, of + k * 4 + 2, none⟩ = some (.int .i64 arg) := HB0.out wC CWC.out.upd 2 _ rfl; have y1 := BAC.out.lt; have y2 := BAC.out.frz; have y3 : ∀ (W : World) (i j : Nat) (u : Value), (W.setCell ⟨w7.heap.size, j, none⟩ u).cell? ⟨b, i, none⟩ = W.cell? ⟨b, i, none⟩ := cell_far (Nat.ne_of_lt hb); have z0 : wC.cell? ⟨w7.heap.size, 0, none⟩ = some (.bool false) := BAC.out.cell 0; have z1 : wC.cell? ⟨w7.heap.size, 1, none⟩ = some (.bool false) := BAC.out.cell 1; have z2 : wC.cell? ⟨w7.heap.size, 2, none⟩ = some (.int .u64 0) := BAC.out.cell 2; have z3 : wC.cell? ⟨w7.heap.size, 3, none⟩ = some (.slice none 0 0) := BAC.out.cell 3; have z4 : wC.cell? ⟨w7.heap.size, 4, none⟩ = some (.slice none 0 0) := BAC.out.cell 4; clear hp OWa OMa) | (go_at_call 13; have CWa := Lib.hid (CW7.out.keep0 ((Upd.refl (fun _ => False) w7).drew)); have OWa := Lib.hid (own_upd0 OW.out ((Upd.refl (fun _ => False) w7).drew)); have OMa : Hid (∀ b_, (.slice (some ⟨gg, 0, none⟩) (a + 1) cp : Value).ownBlock = some b_ → F7 b_) := Lib.hid (OM.out); (with_reducible refine (cadd_to (n := nb) (m := mb) HADD.out HNB.out HMB.out HW.out (fun _ => HW0.out) hcm9 hca9 CWa.out.isC).mono ?_); rintro e_ wC ⟨p6, A6, c6, M6, d6, rfl, hp⟩; have CWC := Lib.hid (CWa.out.next hp); have KAC : Hid (Kp wC (Nx F7 p6) A6 nb c6 (nums bb.1)) := Lib.hid hp.ka; have KMC : Hid (Kp wC (Nx F7 p6) M6 mb d6 (prs bb.2)) := Lib.hid hp.km; have OWC := Lib.hid (CWa.out.own hp OWa.out (by decide) (by decide)); have OMC : Hid (∀ b_, (.slice (some ⟨gg, 0, none⟩) (a + 1) cp : Value).ownBlock = some b_ → (Nx F7 p6) b_) := Lib.hid (fun b_ h_ => .inl (OMa.out b_ h_)); have g1 : wC.cell? ⟨b, of + k * 4 + 1, none⟩ = some (.int .i64 id) := HB0.out wC CWC.out.upd 1 _ rfl; have g2 : wC.cell? ⟨b, of + k * 4 + 2, none⟩ = some (.int .i64 arg) := HB0.out wC CWC.out.upd 2 _ rfl; clear hp OWa OMa))
                all_goals first
                  | (rename_i hh_
                     have CW6 : Hid (CW w (wC.alloc (.cells #[.bool op, .bool rd, .int .u64 due, .slice A6 nb c6, .slice M6 mb d6] 42)) (Pl (Nx F7 p6) wC.heap.size) g p6 1000 (N : Int) (s')) := Lib.hid (CWC.out.grow ((Upd.refl (fun _ => False) wC).alloc (.cells #[.bool op, .bool rd, .int .u64 due, .slice A6 nb c6, .slice M6 mb d6] 42)) (pl_new' wC (.cells #[.bool op, .bool rd, .int .u64 due, .slice A6 nb c6, .slice M6 mb d6] 42)) (fun _ h => .inl h))
                     have KA6 : Hid (Kp (wC.alloc (.cells #[.bool op, .bool rd, .int .u64 due, .slice A6 nb c6, .slice M6 mb d6] 42)) (Pl (Nx F7 p6) wC.heap.size) A6 nb c6 (nums bb.1)) := Lib.hid (KAC.out.grow ((Upd.refl (fun _ => False) wC).alloc (.cells #[.bool op, .bool rd, .int .u64 due, .slice A6 nb c6, .slice M6 mb d6] 42)) (pl_new' wC (.cells #[.bool op, .bool rd, .int .u64 due, .slice A6 nb c6, .slice M6 mb d6] 42)))
                     have KM6 : Hid (Kp (wC.alloc (.cells #[.bool op, .bool rd, .int .u64 due, .slice A6 nb c6, .slice M6 mb d6] 42)) (Pl (Nx F7 p6) wC.heap.size) M6 mb d6 (prs bb.2)) := Lib.hid (KMC.out.grow ((Upd.refl (fun _ => False) wC).alloc (.cells #[.bool op, .bool rd, .int .u64 due, .slice A6 nb c6, .slice M6 mb d6] 42)) (pl_new' wC (.cells #[.bool op, .bool rd, .int .u64 due, .slice A6 nb c6, .slice M6 mb d6] 42)))
                     have B6 : Hid (Blk (wC.alloc (.cells #[.bool op, .bool rd, .int .u64 due, .slice A6 nb c6, .slice M6 mb d6] 42)) wC.heap.size 42 #[.bool op, .bool rd, .int .u64 due, .slice A6 nb c6, .slice M6 mb d6]) := Lib.hid (Blk.new wC #[.bool op, .bool rd, .int .u64 due, .slice A6 nb c6, .slice M6 mb d6] 42)
                     have OW6 : Hid ((wC.alloc (.cells #[.bool op, .bool rd, .int .u64 due, .slice A6 nb c6, .slice M6 mb d6] 42)).ownsRow (w.heap.size) 3 1 (.slice (some ⟨gg, 0, none⟩) (a + 1) cp) ((a + 1)) (nums (cxs s ++ [arg]))) := Lib.hid (own_alloc OWC.out _)
                     have OM6 : Hid (∀ b_, (.slice (some ⟨gg, 0, none⟩) (a + 1) cp : Value).ownBlock = some b_ → (Pl (Nx F7 p6) wC.heap.size) b_) := Lib.hid (fun b_ h_ => .inl (OMC.out b_ h_))
                     have PF6 : Hid ((Pl (Nx F7 p6) wC.heap.size) wC.heap.size) := Lib.hid (.inr rfl)
                     clear hh_ CWC KAC KMC CWa g1 g2 OWC OMC
                     generalize (wC.alloc (.cells #[.bool op, .bool rd, .int .u64 due, .slice A6 nb c6, .slice M6 mb d6] 42)) = W6 at CW6 KA6 KM6 B6 OW6 ⊢
                     generalize (Pl (Nx F7 p6) wC.heap.size) = F6 at CW6 KA6 KM6 PF6 OM6
                     generalize wC.heap.size = ga at B6 PF6 ⊢
                     revert PF6
                     revert OM6
                     revert OW6
                     revert B6
                     revert KM6
                     revert KA6
                     revert CW6
                     revert ga F6 W6 d6 M6 c6 A6 p6
                     exact hcut.down)
                  | (rename_i hh_
                     have hn_ : ∀ k, Fr2 g p6 k → ¬ At w7.heap.size k := fun k hk h1 => CWC.out.isC.ne_blk BAC.out (by decide) (by decide) (show Fr2 g p6 w7.heap.size from h1 ▸ hk)
                     have hw_ : Upd (At w7.heap.size) wC (((((wC.setCell ⟨w7.heap.size, 0, none⟩ (.bool op)).setCell ⟨w7.heap.size, 1, none⟩ (.bool rd)).setCell ⟨w7.heap.size, 2, none⟩ (.int .u64 due)).setCell ⟨w7.heap.size, 3, none⟩ (.slice A6 nb c6)).setCell ⟨w7.heap.size, 4, none⟩ (.slice M6 mb d6)) := Upd.w5 (.bool op) (.bool rd) (.int .u64 due) (.slice A6 nb c6) (.slice M6 mb d6) (Upd.refl _ _) (.inl rfl)
                     have CW6 : Hid (CW w (((((wC.setCell ⟨w7.heap.size, 0, none⟩ (.bool op)).setCell ⟨w7.heap.size, 1, none⟩ (.bool rd)).setCell ⟨w7.heap.size, 2, none⟩ (.int .u64 due)).setCell ⟨w7.heap.size, 3, none⟩ (.slice A6 nb c6)).setCell ⟨w7.heap.size, 4, none⟩ (.slice M6 mb d6)) (Nx (Pl F7 w7.heap.size) p6) g p6 1000 (N : Int) (s')) := Lib.hid (CWC.out.write hw_ (fun k hk => .inl (.inr hk)) hn_)
                     have KA6 : Hid (Kp (((((wC.setCell ⟨w7.heap.size, 0, none⟩ (.bool op)).setCell ⟨w7.heap.size, 1, none⟩ (.bool rd)).setCell ⟨w7.heap.size, 2, none⟩ (.int .u64 due)).setCell ⟨w7.heap.size, 3, none⟩ (.slice A6 nb c6)).setCell ⟨w7.heap.size, 4, none⟩ (.slice M6 mb d6)) (Nx (Pl F7 w7.heap.size) p6) A6 nb c6 (nums bb.1)) := Lib.hid (KAC.out.keep hw_ (fun k hk => .inl (.inr hk)))
                     have KM6 : Hid (Kp (((((wC.setCell ⟨w7.heap.size, 0, none⟩ (.bool op)).setCell ⟨w7.heap.size, 1, none⟩ (.bool rd)).setCell ⟨w7.heap.size, 2, none⟩ (.int .u64 due)).setCell ⟨w7.heap.size, 3, none⟩ (.slice A6 nb c6)).setCell ⟨w7.heap.size, 4, none⟩ (.slice M6 mb d6)) (Nx (Pl F7 w7.heap.size) p6) M6 mb d6 (prs bb.2)) := Lib.hid (KMC.out.keep hw_ (fun k hk => .inl (.inr hk)))
                     have B6 : Hid (Blk (((((wC.setCell ⟨w7.heap.size, 0, none⟩ (.bool op)).setCell ⟨w7.heap.size, 1, none⟩ (.bool rd)).setCell ⟨w7.heap.size, 2, none⟩ (.int .u64 due)).setCell ⟨w7.heap.size, 3, none⟩ (.slice A6 nb c6)).setCell ⟨w7.heap.size, 4, none⟩ (.slice M6 mb d6)) w7.heap.size 42 #[.bool op, .bool rd, .int .u64 due, .slice A6 nb c6, .slice M6 mb d6]) := Lib.hid (Blk.w5 (.bool op) (.bool rd) (.int .u64 due) (.slice A6 nb c6) (.slice M6 mb d6) BAC.out)
                     have OW6 : Hid ((((((wC.setCell ⟨w7.heap.size, 0, none⟩ (.bool op)).setCell ⟨w7.heap.size, 1, none⟩ (.bool rd)).setCell ⟨w7.heap.size, 2, none⟩ (.int .u64 due)).setCell ⟨w7.heap.size, 3, none⟩ (.slice A6 nb c6)).setCell ⟨w7.heap.size, 4, none⟩ (.slice M6 mb d6)).ownsRow (w.heap.size) 3 1 (.slice (some ⟨gg, 0, none⟩) (a + 1) cp) ((a + 1)) (nums (cxs s ++ [arg]))) := Lib.hid (own_upd OWC.out hw_ (fun b_ hb_ h1_ => own_sep OWC.out BAC.out (by decide) (by rw [hb_, show b_ = w7.heap.size from h1_])))
                     have OM6 : Hid (∀ b_, (.slice (some ⟨gg, 0, none⟩) (a + 1) cp : Value).ownBlock = some b_ → (Nx (Pl F7 w7.heap.size) p6) b_) := Lib.hid (OMC.out)
                     have PF6 : Hid ((Nx (Pl F7 w7.heap.size) p6) w7.heap.size) := Lib.hid (.inl (.inr rfl))
                     clear hh_ CWC KAC KMC CWa g1 g2 OWC OMC BAC hn_ hw_ y1 y2 z0 z1 z2 z3 z4
                     generalize (((((wC.setCell ⟨w7.heap.size, 0, none⟩ (.bool op)).setCell ⟨w7.heap.size, 1, none⟩ (.bool rd)).setCell ⟨w7.heap.size, 2, none⟩ (.int .u64 due)).setCell ⟨w7.heap.size, 3, none⟩ (.slice A6 nb c6)).setCell ⟨w7.heap.size, 4, none⟩ (.slice M6 mb d6)) = W6 at CW6 KA6 KM6 B6 OW6 ⊢
                     generalize (Nx (Pl F7 w7.heap.size) p6) = F6 at CW6 KA6 KM6 PF6 OM6
                     generalize w7.heap.size = ga at B6 PF6 ⊢
                     revert PF6
                     revert OM6
                     revert OW6
                     revert B6
                     revert KM6
                     revert KA6
                     revert CW6
                     revert ga F6 W6 d6 M6 c6 A6 p6
                     exact hcut.down)
              case pfG =>
                intro p6 A6 c6 M6 d6 W6 F6 ga CW6 KA6 KM6 B6 OW6 OM6 PF6
                have c0_ : W6.cell? ⟨ga, 0, none⟩ = some (.bool op) := B6.out.cell 0
                have c1_ : W6.cell? ⟨ga, 1, none⟩ = some (.bool rd) := B6.out.cell 1
                have c2_ : W6.cell? ⟨ga, 2, none⟩ = some (.int .u64 due) := B6.out.cell 2
                have c3_ : W6.cell? ⟨ga, 3, none⟩ = some (.slice A6 nb c6) := B6.out.cell 3
                have c4_ : W6.cell? ⟨ga, 4, none⟩ = some (.slice M6 mb d6) := B6.out.cell 4
                have hrd := FST.out.rdy
                have hop := FST.out.opn
                simp only [Bool.false_eq_true, if_true, if_false] at hrd hop
                have hlen : (cxs s ++ [arg]).length = a + 1 := by simp [HAL.out]
                rw [hlen] at hrd hop
                have HRD := Lib.hid hrd
                have HOP := Lib.hid hop
                clear hrd hop
                by_cases hrd : rd = true
                · subst hrd
                  by_cases hop : op = true
                  · subst hop
                    obtain rfl : (a + 1) = N := by have := HRD.out; simpa using this
                    obtain rfl : (a + 1) = nb := by rw [← HNB.out]; exact (FST.out.yes rfl).1.symm
                    have n1_ : (((a + 1 : Nat) : Int) == ((a + 1 : Nat) : Int)) = true := by simp
                    have n2_ : (((a : Int) + 1) == 1) = true := by have := HOP.out; simp at this ⊢; omega
                    go_wp2
                    go_roundw
                    case rel => exact ⟨k + 1, F6, p6, s', none, 0, 0, by omega, by omega, by go_num, rfl, Lib.hid (by rw [(FST.out.yes rfl).2]; trivial), HMM, Lib.hid (by rw [(FST.out.yes rfl).2]; rfl), Lib.hid (CW6.out), Lib.hid (by rw [(FST.out.yes rfl).2]; exact own_nil _ _ _ _), Lib.hid (fun b_ h_ => by simp [Value.ownBlock] at h_)⟩
                    case measure => simp [intOf]; omega
                  · obtain rfl : op = false := by simpa using hop
                    clear hop
                    obtain rfl : (a + 1) = N := by have := HRD.out; simpa using this
                    obtain rfl : (a + 1) = nb := by rw [← HNB.out]; exact (FST.out.yes rfl).1.symm
                    have n1_ : (((a + 1 : Nat) : Int) == ((a + 1 : Nat) : Int)) = true := by simp
                    have n2_ : (((a : Int) + 1) == 1) = false := by have := HOP.out; simp at this ⊢; omega
                    go_wp2
                    go_roundw
                    case rel => exact ⟨k + 1, F6, p6, s', none, 0, 0, by omega, by omega, by go_num, rfl, Lib.hid (by rw [(FST.out.yes rfl).2]; trivial), HMM, Lib.hid (by rw [(FST.out.yes rfl).2]; rfl), Lib.hid (CW6.out), Lib.hid (by rw [(FST.out.yes rfl).2]; exact own_nil _ _ _ _), Lib.hid (fun b_ h_ => by simp [Value.ownBlock] at h_)⟩
                    case measure => simp [intOf]; omega
                · obtain rfl : rd = false := by simpa using hrd
                  clear hrd
                  by_cases hop : op = true
                  · subst hop
                    have n1_ : (((a : Int) + 1) == (N : Int)) = false := by have := HRD.out; simp at this ⊢; omega
                    have n2_ : (((a : Int) + 1) == 1) = true := by have := HOP.out; simp at this ⊢; omega
                    go_wp2
                    go_roundw
                    case rel => exact ⟨k + 1, F6, p6, s', (some ⟨gg, 0, none⟩), (a + 1), cp, by omega, by omega, by go_num, rfl, Lib.hid (FST.out.no rfl).1, HMM, Lib.hid (by rw [(FST.out.no rfl).2.1]; simp [HAL.out]), CW6, Lib.hid (by rw [(FST.out.no rfl).2.1]; exact OW6.out), OM6⟩
                    case measure => simp [intOf]; omega
                  · obtain rfl : op = false := by simpa using hop
                    clear hop
                    have n1_ : (((a : Int) + 1) == (N : Int)) = false := by have := HRD.out; simp at this ⊢; omega
                    have n2_ : (((a : Int) + 1) == 1) = false := by have := HOP.out; simp at this ⊢; omega
                    go_wp2
                    go_roundw
                    case rel => exact ⟨k + 1, F6, p6, s', (some ⟨gg, 0, none⟩), (a + 1), cp, by omega, by omega, by go_num, rfl, Lib.hid (FST.out.no rfl).1, HMM, Lib.hid (by rw [(FST.out.no rfl).2.1]; simp [HAL.out]), CW6, Lib.hid (by rw [(FST.out.no rfl).2.1]; exact OW6.out), OM6⟩
                    case measure => simp [intOf]; omega
      · have hq : ¬ (k : Int) < 100 := by omega
        have hq1 : (k : Int) < (len : Int) := by omega
        go_wp2
        go_ret
        exact ⟨rfl, CWr.out.upd.below0⟩
    · have hq : ¬ (k : Int) < (len : Int) := by omega
      go_wp2
      go_ret
      exact ⟨rfl, CWr.out.upd.below0⟩
theorem cfull_walk {w : World} (a0 : Int) (w0 : (Lit.int .u8 a0).wf = true) (A9 : Option Addr) (len9 cap9 : Nat) (L9 : List (List Value)) (hL9 : L9.length = len9) (hlc9 : len9 ≤ cap9) (hm9 : cap9 ≤ maxLen) (hn9 : A9 = none → len9 = 0 ∧ cap9 = 0) (hok9 : ∀ row ∈ L9, Oks d4s row) (hr9 : Rows w A9 4 L9) :
    Calls Try.prog 6 #[.int .u8 a0, .slice A9 len9 cap9] w fun e w' => e = .returned (.bool true) ∧ Below w.heap.size w w' := by
  obtain ⟨l, hl, hwf, hs⟩ := sl_rows (enc := d4) d4_len (by decide) d4_dec hL9 hlc9 hm9 hn9 hok9 hr9
  unfold maxLen at hm9
  exact cfull_any A9 len9 cap9 l hl (by omega) hwf a0 (u8_0 w0).1 (u8_0 w0).2 w hs
end Go.Proofs.Ytnpecnljibeddaa
