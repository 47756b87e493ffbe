/- CollOne. -/
import Derived.Test.YtnpecnljibeddaaAw
import Derived.Test.YtnpecnljibeddaaDd
import Derived.LoopTactic
namespace Go.Proofs.Ytnpecnljibeddaa
open Go.RowKit
attribute [local go_sem ↓] Go.wp_at_zero Go.wp_at_succ
set_option linter.unusedVariables false
set_option linter.unusedSimpArgs false

theorem one_add (t id arg : Int) : cadd 5 1 none t id arg = (none, true, true, sat t 5, ([arg], [(id, 0)])) := by simp [cadd, cput]
/-- Nothing happened. -/
abbrev zs : Array Value := #[.bool false, .bool false, .int .u64 0, .slice none 0 0, .slice none 0 0]
set_option maxRecDepth 100000 in
set_option maxHeartbeats 2000000 in
theorem cone_any (L : Option Addr) (len cap : Nat) (l : List D4) (hl : l.length = len) (hm : len ≤ 9223372036854775807) (hwf : Wd l) (w : World) (hs : Sl w L len cap (fl d4 l)) :
    Calls Try.prog 7 #[.slice L len cap] w fun e w' => e = .returned (.bool true) ∧ Below w.heap.size w w' := by
  have HL := Lib.hid hl
  have HS := Lib.hid hs
  have HWF := Lib.hid hwf
  clear hl hs hwf
  go_enter Try.func7, Try.ntmps7
  go_wp2_with fail
  refine (awake_any _).mono ?_
  rintro e_ w0 ⟨rfl, hd⟩
  have HU0 := Lib.hid (Upd.of_below hd (fun _ => False))
  clear hd
  go_wp2_with fail
  refine (new_yes (win := 5) (most := 1) ⟨by decide, by decide, by decide, by decide⟩ _).mono ?_
  rintro e_ w1 ⟨g, rfl, hi, hg, hd⟩
  have CW1 := Lib.hid (CW.start hi HU0.out hg hd)
  have HW : Hid (W64 5) := Lib.hid ⟨by decide, by decide⟩
  clear hi hg hd HU0
  go_wp2_with fail
  go_loopw [5] (fun iv wr => ∃ (k : Nat) (F : Nat → Prop) (p : Option Nat), k ≤ len ∧ k ≤ 100 ∧ iv = .int .i64 k ∧ Hid (CW w wr F g p 5 1 none)) (fun iv _ => 100 - (intOf iv).toNat)
  case atStart => exact ⟨0, _, _, Nat.zero_le _, Nat.zero_le _, rfl, CW1⟩
  case round =>
    obtain ⟨k, F, p, hk, hk2, rfl, CWr⟩ := hrel
    by_cases hlt1 : k < len
    · by_cases hlt2 : k < 100
      · skip
        obtain ⟨x, hx⟩ : ∃ x, l[k]? = some x := ⟨l[k]'(by rw [HL.out]; exact hlt1), List.getElem?_eq_getElem _⟩
        have hxw := HWF.out x (List.mem_of_getElem? hx)
        have HXW : Hid (W64 x.2.2.2) := Lib.hid hxw
        have HX := Lib.hid hx
        obtain ⟨b, of, e, hb, hc⟩ := (CWr.out.old HS.out).sl.row d4_len (by decide) hx
        obtain ⟨b0, of0, e0, hb0, hc0⟩ := HS.out.row d4_len (by decide) hx
        rw [e] at e0
        injection e0 with e0
        injection e0 with e1 e2
        subst e1 e2 e
        have f0 := hc 0 _ rfl
        have f1 := hc 1 _ rfl
        have f2 := hc 2 _ rfl
        have f3 := hc 3 _ rfl
        simp only [← Nat.add_assoc, Nat.add_zero] at f0 f1 f2 f3
        have HB0 : Hid (∀ W, Upd (fun _ => False) w W → (∀ j v, (d4 x)[j]? = some v → W.cell? ⟨b, of + (k * 4 + j), none⟩ = some v)) := Lib.hid (fun W hu j v hv => (hu.cellq (p := ⟨b, of + (k * 4 + j), none⟩) hb0 (fun h => h)).trans (hc0 j v hv))
        obtain ⟨kd, id, arg, t⟩ := x
        simp only at HXW
        replace f0 : wr.cell? ⟨b, of + k * 4, none⟩ = some (.int .i64 kd) := f0
        replace f1 : wr.cell? ⟨b, of + k * 4 + 1, none⟩ = some (.int .i64 id) := f1
        replace f2 : wr.cell? ⟨b, of + k * 4 + 2, none⟩ = some (.int .i64 arg) := f2
        replace f3 : wr.cell? ⟨b, of + k * 4 + 3, none⟩ = some (.int .u64 t) := f3
        have i0 : (0 : Int) ≤ (k : Int) := Int.natCast_nonneg _
        have i1 : (k : Int) < (len : Int) := by omega
        have i2 : (k : Int) < 100 := by omega
        clear hx hxw hc hc0
        go_wp2_with fail
        refine (show PLift ?Cut → _ from fun hcut => ?main) ⟨?pf⟩
        case main =>
          go_region_held3 (fun w' => w'.cell? ⟨b, of + k * 4 + 1, none⟩ = some (.int .i64 id) ∧ w'.cell? ⟨b, of + k * 4 + 2, none⟩ = some (.int .i64 arg) ∧ w'.cell? ⟨b, of + k * 4 + 3, none⟩ = some (.int .u64 t)) (go_keep) (first | (go_at_call 13; have CWa := Lib.hid (CWr.out.grow (F' := (Pl F wr.heap.size)) (((Upd.refl (fun _ => False) wr).alloc (.cells zs 42)).drew) (pl_new wr (.cells zs 42)) (fun _ h => .inl h)); have BAa := Lib.hid ((Blk.new wr zs 42).drew); (with_reducible refine (cadd_to (n := 1) (m := 1) (one_add t id arg) rfl rfl HW.out (fun _ => HXW.out) (by decide) (by decide) CWa.out.isC).mono ?_); rintro e_ wC ⟨p6, A6, c6, M6, d6, rfl, hp⟩; have CWC := Lib.hid (CWa.out.next hp); have BAC := Lib.hid (CWa.out.blk hp BAa.out (by decide) (by decide)); have KAC : Hid (Kp wC (Nx (Pl F wr.heap.size) p6) A6 1 c6 (nums [arg])) := Lib.hid hp.ka; have KMC : Hid (Kp wC (Nx (Pl F wr.heap.size) p6) M6 1 d6 (prs [(id, 0)])) := Lib.hid hp.km; have g1 : wC.cell? ⟨b, of + k * 4 + 1, none⟩ = some (.int .i64 id) := HB0.out wC CWC.out.upd 1 _ rfl; have g2 : wC.cell? ⟨b, of + k * 4 + 2, none⟩ = some (.int .i64 arg) := HB0.out wC CWC.out.upd 2 _ rfl; have g3 : wC.cell? ⟨b, of + k * 4 + 3, none⟩ = some (.int .u64 t) := HB0.out wC CWC.out.upd 3 _ rfl; have y1 := BAC.out.lt; have y2 := BAC.out.frz; have y3 : ∀ (W : World) (i j : Nat) (u : Value), (W.setCell ⟨wr.heap.size, j, none⟩ u).cell? ⟨b, i, none⟩ = W.cell? ⟨b, i, none⟩ := cell_far (Nat.ne_of_lt hb); have z0 : wC.cell? ⟨wr.heap.size, 0, none⟩ = some (.bool false) := BAC.out.cell 0; have z1 : wC.cell? ⟨wr.heap.size, 1, none⟩ = some (.bool false) := BAC.out.cell 1; have z2 : wC.cell? ⟨wr.heap.size, 2, none⟩ = some (.int .u64 0) := BAC.out.cell 2; have z3 : wC.cell? ⟨wr.heap.size, 3, none⟩ = some (.slice none 0 0) := BAC.out.cell 3; have z4 : wC.cell? ⟨wr.heap.size, 4, none⟩ = some (.slice none 0 0) := BAC.out.cell 4; clear hp ) | (go_at_call 13; have CWa := Lib.hid (CWr.out.keep0 ((Upd.refl (fun _ => False) wr).drew)); (with_reducible refine (cadd_to (n := 1) (m := 1) (one_add t id arg) rfl rfl HW.out (fun _ => HXW.out) (by decide) (by decide) CWa.out.isC).mono ?_); rintro e_ wC ⟨p6, A6, c6, M6, d6, rfl, hp⟩; have CWC := Lib.hid (CWa.out.next hp); have KAC : Hid (Kp wC (Nx F p6) A6 1 c6 (nums [arg])) := Lib.hid hp.ka; have KMC : Hid (Kp wC (Nx F p6) M6 1 d6 (prs [(id, 0)])) := Lib.hid hp.km; have g1 : wC.cell? ⟨b, of + k * 4 + 1, none⟩ = some (.int .i64 id) := HB0.out wC CWC.out.upd 1 _ rfl; have g2 : wC.cell? ⟨b, of + k * 4 + 2, none⟩ = some (.int .i64 arg) := HB0.out wC CWC.out.upd 2 _ rfl; have g3 : wC.cell? ⟨b, of + k * 4 + 3, none⟩ = some (.int .u64 t) := HB0.out wC CWC.out.upd 3 _ rfl; clear hp ))
          all_goals first
            | (rename_i hh_
               have CW6 : Hid (CW w (wC.alloc (.cells #[.bool true, .bool true, .int .u64 (sat t 5), .slice A6 1 c6, .slice M6 1 d6] 42)) (Pl (Nx F p6) wC.heap.size) g p6 5 1 (none)) := Lib.hid (CWC.out.grow ((Upd.refl (fun _ => False) wC).alloc (.cells #[.bool true, .bool true, .int .u64 (sat t 5), .slice A6 1 c6, .slice M6 1 d6] 42)) (pl_new' wC (.cells #[.bool true, .bool true, .int .u64 (sat t 5), .slice A6 1 c6, .slice M6 1 d6] 42)) (fun _ h => .inl h))
               have KA6 : Hid (Kp (wC.alloc (.cells #[.bool true, .bool true, .int .u64 (sat t 5), .slice A6 1 c6, .slice M6 1 d6] 42)) (Pl (Nx F p6) wC.heap.size) A6 1 c6 (nums [arg])) := Lib.hid (KAC.out.grow ((Upd.refl (fun _ => False) wC).alloc (.cells #[.bool true, .bool true, .int .u64 (sat t 5), .slice A6 1 c6, .slice M6 1 d6] 42)) (pl_new' wC (.cells #[.bool true, .bool true, .int .u64 (sat t 5), .slice A6 1 c6, .slice M6 1 d6] 42)))
               have KM6 : Hid (Kp (wC.alloc (.cells #[.bool true, .bool true, .int .u64 (sat t 5), .slice A6 1 c6, .slice M6 1 d6] 42)) (Pl (Nx F p6) wC.heap.size) M6 1 d6 (prs [(id, 0)])) := Lib.hid (KMC.out.grow ((Upd.refl (fun _ => False) wC).alloc (.cells #[.bool true, .bool true, .int .u64 (sat t 5), .slice A6 1 c6, .slice M6 1 d6] 42)) (pl_new' wC (.cells #[.bool true, .bool true, .int .u64 (sat t 5), .slice A6 1 c6, .slice M6 1 d6] 42)))
               have B6 : Hid (Blk (wC.alloc (.cells #[.bool true, .bool true, .int .u64 (sat t 5), .slice A6 1 c6, .slice M6 1 d6] 42)) wC.heap.size 42 #[.bool true, .bool true, .int .u64 (sat t 5), .slice A6 1 c6, .slice M6 1 d6]) := Lib.hid (Blk.new wC #[.bool true, .bool true, .int .u64 (sat t 5), .slice A6 1 c6, .slice M6 1 d6] 42)
               have PF6 : Hid ((Pl (Nx F p6) wC.heap.size) wC.heap.size) := Lib.hid (.inr rfl)
               clear hh_ CWC KAC KMC CWa g1 g2 g3 
               generalize (wC.alloc (.cells #[.bool true, .bool true, .int .u64 (sat t 5), .slice A6 1 c6, .slice M6 1 d6] 42)) = W6 at CW6 KA6 KM6 B6  ⊢
               generalize (Pl (Nx F p6) wC.heap.size) = F6 at CW6 KA6 KM6 PF6 
               generalize wC.heap.size = ga at B6 PF6 ⊢
               revert PF6
               revert B6
               revert KM6
               revert KA6
               revert CW6
               revert ga F6 W6 d6 M6 c6 A6 p6
               exact hcut.down)
            | (rename_i hh_
               have hn_ : ∀ k, Fr2 g p6 k → ¬ At wr.heap.size k := fun k hk h1 => CWC.out.isC.ne_blk BAC.out (by decide) (by decide) (show Fr2 g p6 wr.heap.size from h1 ▸ hk)
               have hw_ : Upd (At wr.heap.size) wC (((((wC.setCell ⟨wr.heap.size, 0, none⟩ (.bool true)).setCell ⟨wr.heap.size, 1, none⟩ (.bool true)).setCell ⟨wr.heap.size, 2, none⟩ (.int .u64 (sat t 5))).setCell ⟨wr.heap.size, 3, none⟩ (.slice A6 1 c6)).setCell ⟨wr.heap.size, 4, none⟩ (.slice M6 1 d6)) := Upd.w5 (.bool true) (.bool true) (.int .u64 (sat t 5)) (.slice A6 1 c6) (.slice M6 1 d6) (Upd.refl _ _) (.inl rfl)
               have CW6 : Hid (CW w (((((wC.setCell ⟨wr.heap.size, 0, none⟩ (.bool true)).setCell ⟨wr.heap.size, 1, none⟩ (.bool true)).setCell ⟨wr.heap.size, 2, none⟩ (.int .u64 (sat t 5))).setCell ⟨wr.heap.size, 3, none⟩ (.slice A6 1 c6)).setCell ⟨wr.heap.size, 4, none⟩ (.slice M6 1 d6)) (Nx (Pl F wr.heap.size) p6) g p6 5 1 (none)) := Lib.hid (CWC.out.write hw_ (fun k hk => .inl (.inr hk)) hn_)
               have KA6 : Hid (Kp (((((wC.setCell ⟨wr.heap.size, 0, none⟩ (.bool true)).setCell ⟨wr.heap.size, 1, none⟩ (.bool true)).setCell ⟨wr.heap.size, 2, none⟩ (.int .u64 (sat t 5))).setCell ⟨wr.heap.size, 3, none⟩ (.slice A6 1 c6)).setCell ⟨wr.heap.size, 4, none⟩ (.slice M6 1 d6)) (Nx (Pl F wr.heap.size) p6) A6 1 c6 (nums [arg])) := Lib.hid (KAC.out.keep hw_ (fun k hk => .inl (.inr hk)))
               have KM6 : Hid (Kp (((((wC.setCell ⟨wr.heap.size, 0, none⟩ (.bool true)).setCell ⟨wr.heap.size, 1, none⟩ (.bool true)).setCell ⟨wr.heap.size, 2, none⟩ (.int .u64 (sat t 5))).setCell ⟨wr.heap.size, 3, none⟩ (.slice A6 1 c6)).setCell ⟨wr.heap.size, 4, none⟩ (.slice M6 1 d6)) (Nx (Pl F wr.heap.size) p6) M6 1 d6 (prs [(id, 0)])) := Lib.hid (KMC.out.keep hw_ (fun k hk => .inl (.inr hk)))
               have B6 : Hid (Blk (((((wC.setCell ⟨wr.heap.size, 0, none⟩ (.bool true)).setCell ⟨wr.heap.size, 1, none⟩ (.bool true)).setCell ⟨wr.heap.size, 2, none⟩ (.int .u64 (sat t 5))).setCell ⟨wr.heap.size, 3, none⟩ (.slice A6 1 c6)).setCell ⟨wr.heap.size, 4, none⟩ (.slice M6 1 d6)) wr.heap.size 42 #[.bool true, .bool true, .int .u64 (sat t 5), .slice A6 1 c6, .slice M6 1 d6]) := Lib.hid (Blk.w5 (.bool true) (.bool true) (.int .u64 (sat t 5)) (.slice A6 1 c6) (.slice M6 1 d6) BAC.out)
               have PF6 : Hid ((Nx (Pl F wr.heap.size) p6) wr.heap.size) := Lib.hid (.inl (.inr rfl))
               clear hh_ CWC KAC KMC CWa g1 g2 g3  BAC hn_ hw_ y1 y2 z0 z1 z2 z3 z4
               generalize (((((wC.setCell ⟨wr.heap.size, 0, none⟩ (.bool true)).setCell ⟨wr.heap.size, 1, none⟩ (.bool true)).setCell ⟨wr.heap.size, 2, none⟩ (.int .u64 (sat t 5))).setCell ⟨wr.heap.size, 3, none⟩ (.slice A6 1 c6)).setCell ⟨wr.heap.size, 4, none⟩ (.slice M6 1 d6)) = W6 at CW6 KA6 KM6 B6  ⊢
               generalize (Nx (Pl F wr.heap.size) p6) = F6 at CW6 KA6 KM6 PF6 
               generalize wr.heap.size = ga at B6 PF6 ⊢
               revert PF6
               revert B6
               revert KM6
               revert KA6
               revert CW6
               revert ga F6 W6 d6 M6 c6 A6 p6
               exact hcut.down)
        case pf =>
          intro p6 A6 c6 M6 d6 W6 F6 ga CW6 KA6 KM6 B6  PF6
          obtain ⟨ab, ao, ea, hab, ha0⟩ := KA6.out.sl.num (i := 0) (x := arg) rfl
          subst ea
          replace ha0 : W6.cell? ⟨ab, ao, none⟩ = some (.int .i64 arg) := ha0
          have c0_ : W6.cell? ⟨ga, 0, none⟩ = some (.bool true) := B6.out.cell 0
          have c1_ : W6.cell? ⟨ga, 1, none⟩ = some (.bool true) := B6.out.cell 1
          have c3_ : W6.cell? ⟨ga, 3, none⟩ = some (.slice (some ⟨ab, ao, none⟩) 1 c6) := B6.out.cell 3
          have c4_ : W6.cell? ⟨ga, 4, none⟩ = some (.slice M6 1 d6) := B6.out.cell 4
          have q1_ : W6.cell? ⟨b, of + k * 4 + 1, none⟩ = some (.int .i64 id) := HB0.out W6 CW6.out.upd 1 _ rfl
          have q2_ : W6.cell? ⟨b, of + k * 4 + 2, none⟩ = some (.int .i64 arg) := HB0.out W6 CW6.out.upd 2 _ rfl
          go_wp2_with fail
          go_region_held3 (fun w' => w'.cell? ⟨ga, 0, none⟩ = some (.bool true) ∧ w'.cell? ⟨ga, 1, none⟩ = some (.bool true) ∧ w'.cell? ⟨ga, 3, none⟩ = some (.slice (some ⟨ab, ao, none⟩) 1 c6) ∧ w'.cell? ⟨ga, 4, none⟩ = some (.slice M6 1 d6) ∧ w'.cell? ⟨ab, ao, none⟩ = some (.int .i64 arg) ∧ w'.cell? ⟨b, of + k * 4 + 1, none⟩ = some (.int .i64 id) ∧ w'.cell? ⟨b, of + k * 4 + 2, none⟩ = some (.int .i64 arg)) (go_keep) (first
            | (go_at_call 20; refine (lead_to (ms := [(id, 0)]) (m := 1) (r := id) rfl rfl _ KM6.out.sl.drew).mono ?_; rintro e_ w8 ⟨rfl, hd⟩; have hu := Upd.of_below hd (fun _ => False); have U8 := Lib.hid (((Upd.refl (fun _ => False) W6).drew).trans hu (fun _ h => h.elim)); have CW8 := Lib.hid (CW6.out.keep0 U8.out); have B8 := Lib.hid (B6.out.upd U8.out (fun h => h)); have e8_ : w8.cell? ⟨ab, ao, none⟩ = some (.int .i64 arg) := (U8.out.cellq (p := ⟨ab, ao, none⟩) hab (fun h => h)).trans ha0; have d0_ : w8.cell? ⟨ga, 0, none⟩ = some (.bool true) := B8.out.cell 0; have d1_ : w8.cell? ⟨ga, 1, none⟩ = some (.bool true) := B8.out.cell 1; have d3_ : w8.cell? ⟨ga, 3, none⟩ = some (.slice (some ⟨ab, ao, none⟩) 1 c6) := B8.out.cell 3; have d4_ : w8.cell? ⟨ga, 4, none⟩ = some (.slice M6 1 d6) := B8.out.cell 4; have r1_ : w8.cell? ⟨b, of + k * 4 + 1, none⟩ = some (.int .i64 id) := HB0.out w8 CW8.out.upd 1 _ rfl; have r2_ : w8.cell? ⟨b, of + k * 4 + 2, none⟩ = some (.int .i64 arg) := HB0.out w8 CW8.out.upd 2 _ rfl; clear hd hu)
            | (go_at_call 19; refine (open_to (b := false) CW8.out.isC rfl).mono ?_; rintro e_ w9 ⟨rfl, rfl⟩))
          go_wp2
          go_roundw
          case rel => exact ⟨k + 1, F6, p6, by omega, by omega, by go_num, CW8⟩
          case measure => simp [intOf]; omega
      · have hq : ¬ (k : Int) < 100 := by omega
        have hq1 : (k : Int) < (len : Int) := by omega
        go_wp2
        go_ret
        exact ⟨rfl, CWr.out.upd.below0⟩
    · have hq : ¬ (k : Int) < (len : Int) := by omega
      go_wp2
      go_ret
      exact ⟨rfl, CWr.out.upd.below0⟩
theorem cone_walk {w : World} (A9 : Option Addr) (len9 cap9 : Nat) (L9 : List (List Value)) (hL9 : L9.length = len9) (hlc9 : len9 ≤ cap9) (hm9 : cap9 ≤ maxLen) (hn9 : A9 = none → len9 = 0 ∧ cap9 = 0) (hok9 : ∀ row ∈ L9, Oks d4s row) (hr9 : Rows w A9 4 L9) :
    Calls Try.prog 7 #[.slice A9 len9 cap9] w fun e w' => e = .returned (.bool true) ∧ Below w.heap.size w w' := by
  obtain ⟨l, hl, hwf, hs⟩ := sl_rows (enc := d4) d4_len (by decide) d4_dec hL9 hlc9 hm9 hn9 hok9 hr9
  unfold maxLen at hm9
  exact cone_any A9 len9 cap9 l hl (by omega) hwf w hs
end Go.Proofs.Ytnpecnljibeddaa
