/- The document's Outs. -/
import Derived.Test.YtilpcgipjfegcaaCo
namespace Go.Proofs.Ytilpcgipjfegcaa
open Go.RowKit
set_option linter.unusedVariables false
set_option linter.unusedSimpArgs false

theorem psplit_at {vals : List Int} : ∀ {ms l : List (Int × Int)}, psplit vals ms = some l → ∀ (i : Nat) m, ms[i]? = some m → ∃ x, l[i]? = some (m.1, x)
  | [], l, h, i, m, hm => by simp at hm
  | p :: ms, l, h, i, m, hm => by
    unfold psplit at h
    split at h
    · cases h
    · rename_i x hx
      obtain ⟨l', h', rfl⟩ := Option.map_eq_some_iff.1 h
      cases i with
      | zero => simp at hm; subst hm; exact ⟨x, rfl⟩
      | succ i =>
        obtain ⟨y, h2⟩ := psplit_at h' i m (by simpa using hm)
        exact ⟨y, by simpa using h2⟩

set_option maxHeartbeats 4000000 in
theorem routs_failed (A M V : Option Addr) (n c m d q v : Nat) (st sp cs sa now : Int) (ms : List (Int × Int)) (vals : List Int) (hm : ms.length = m) (hv : vals.length = v) (hm1 : m ≤ 1000) (hn1 : n ≤ 1000) (hv1 : v ≤ 1000) (w : World) (hs : Sl w M m d (prs ms)) (hsv : Sl w V v q (nums vals)) :
    Calls Try.prog 14 #[.agg #[.slice A n c, .slice M m d, .int .i64 st, .int .i64 sp, .int .i64 cs, .int .u64 sa], .int .i64 4, .slice V v q, .int .u64 now] w fun e w' => ∃ A' c', e = .returned (.slice A' m c') ∧ Sl w' A' m c' (fl o5 (ms.map (fun m => (m.1, 4, cs, 0, now)))) ∧ Below w.heap.size w w' := by
  have HM := Lib.hid hm
  have HV := Lib.hid hv
  have HS := Lib.hid hs
  have HS1 := Lib.hid (hs.alloc (.cells #[.slice A n c, .slice M m d, .int .i64 st, .int .i64 sp, .int .i64 cs, .int .u64 sa] 28))
  have HSV := Lib.hid (hsv.alloc (.cells #[.slice A n c, .slice M m d, .int .i64 st, .int .i64 sp, .int .i64 cs, .int .u64 sa] 28))
  have BA0 := Lib.hid (Blk.new w #[.slice A n c, .slice M m d, .int .i64 st, .int .i64 sp, .int .i64 cs, .int .u64 sa] 28)
  clear hm hs hv hsv
  obtain ⟨i0, hj, hz0, hz1, hz2⟩ := info_parts infoO
  go_enter Try.func14, Try.ntmps14
  go_wp2_with fail
  refine (rsplit_any A M V c d q n m v ms vals HM.out HV.out (by omega) hm1 hv1 _ HS1.out HSV.out).mono ?_
  rintro e w1 (⟨ps, P, pc, _, _, rfl, _, hd⟩ | ⟨_, rfl, hd⟩)
  · skip
    have U1 := Lib.hid (((Upd.refl (fun _ => False) w).alloc _).trans (Upd.of_below hd (fun _ => False)) (fun _ h => h.elim))
    have BA1 := Lib.hid (BA0.out.upd (Upd.of_below hd (fun _ => False)) (fun h => h))
    clear hd
    go_wp2
    refine Code.gen (fun W => Blk W w.heap.size 28 #[.slice A n c, .slice M m d, .int .i64 st, .int .i64 sp, .int .i64 cs, .int .u64 sa] ∧ Upd (fun _ => False) w W) ⟨BA1.out, U1.out⟩ ?_
    rintro W1 ⟨ba, uw⟩
    have BA1' := Lib.hid ba
    have UW1 := Lib.hid uw
    have hwb := ba.lt
    clear ba uw BA1 U1
    go_loopw [9, 12] (fun lv i wr => ∃ (k : Nat) (V : Option Addr) (vc : Nat), k ≤ m ∧ W1.heap.size ≤ wr.heap.size ∧ i = .int .i64 k ∧ lv = .slice V k vc ∧ Hid (wr.ownsRow W1.heap.size 60 5 (.slice V k vc) k (fl o5 ((ms.take k).map (fun x => (x.1, 4, cs, 0, now))))) ∧ Hid (Blk wr w.heap.size 28 #[.slice A n c, .slice M m d, .int .i64 st, .int .i64 sp, .int .i64 cs, .int .u64 sa]) ∧ Hid (Upd (fun _ => False) w wr)) (fun _ i _ => m - (intOf i).toNat)
    case atStart => exact ⟨0, none, 0, Nat.zero_le _, Nat.le_refl _, rfl, rfl, Lib.hid (own_nil _ _ _ _), BA1', UW1⟩
    case round =>
      obtain ⟨k, V, vc, hk, hbase, rfl, rfl, RO, BA, UW⟩ := hrel
      have ba := BA.out.cell
      have y0 := ba 0
      have y1 := ba 1
      have y2 := ba 2
      have y3 := ba 3
      have y4 := ba 4
      have y5 := ba 5
      have lba := BA.out.lt
      clear ba
      by_cases hlt : k < m
      · skip
        obtain ⟨⟨p, r⟩, hx⟩ : ∃ x, ms[k]? = some x := ⟨ms[k]'(by rw [HM.out]; exact hlt), List.getElem?_eq_getElem _⟩
        obtain ⟨mb, mo, e, hmb, c0, c1⟩ := (HS.out.upd0 UW.out).pr hx
        subst e
        simp only at c0 c1
        have HX := Lib.hid hx
        clear hx
        have i0' : (0 : Int) ≤ (k : Int) := Int.natCast_nonneg _
        have i1' : (k : Int) < (m : Int) := by omega
        go_wp2_with (at_builtin; go_loud (refine wpList_append_lies _ rfl _ _ 32 rfl W1.heap.size 60 i0 (.agg #[.int .i64 0, .int .i64 0, .int .i64 0, .int .i64 0, .int .u64 0]) 5 40 Try.underlying32 hj hz0 hz1 hz2 rfl (by decide) (.slice V k vc) k (fl o5 ((ms.take k).map (fun x => (x.1, 4, cs, 0, now)))) rfl (own_alloc (own_alloc RO.out _) _) ⟨wr.heap.size + 1, 0, none⟩ 1 1 [.int .i64 p, .int .i64 4, .int .i64 cs, .int .i64 0, .int .u64 now] rfl rfl (Blk.new1 wr _ #[.int .i64 p, .int .i64 4, .int .i64 cs, .int .i64 0, .int .u64 now] 60).news ?d5 (by omega) ?d7 ?d8 ?d9 (wr.heap.size + 1 + 1) (by simp) ?_); (case d5 => intro u hu; simp at hu; rcases hu with rfl | rfl | rfl | rfl | rfl <;> rfl); (case d7 => unfold maxLen; omega); (case d8 => omega); (case d9 => simp; omega); intro gg cp w4 hown hgrow hat hlt9; have U4 := Lib.hid (Upd.of_grown hgrow); have O4 : Hid (w4.ownsRow W1.heap.size 60 5 (.slice (some ⟨gg, 0, none⟩) (k + 1) cp) (k + 1) (fl o5 ((ms.take (k + 1)).map (fun x => (x.1, 4, cs, 0, now))))) := Lib.hid (by rw [fl_map (fun x => (x.1, 4, cs, 0, now)) HX.out]; exact hown); clear hown hgrow hat hlt9)
        go_roundw
        case rel => exact ⟨k + 1, some ⟨gg, 0, none⟩, cp, by omega, by have := U4.out.size; simp at this; omega, by go_num, rfl, O4, Lib.hid (((BA.out.alloc _).alloc _).upd U4.out (fun h => absurd (own_ge RO.out h) (Nat.not_le.2 (by omega)))), Lib.hid (((UW.out.alloc _).alloc _).trans U4.out (fun i hi => .inr (Nat.le_trans (by omega) (own_ge RO.out hi))))⟩
        case measure => simp [intOf]; omega
      · have hkm : k = m := by omega
        subst hkm
        have HMT : Hid (ms.take k = ms) := Lib.hid (List.take_of_length_le (by rw [HM.out]; exact Nat.le_refl _))
        go_wp2
        go_ret
        obtain ⟨V2, vc2, e, hsv, _⟩ := Sl.of_own RO.out
        injection e with e1 e2 e3
        subst e1
        subst e3
        rw [HMT.out] at hsv
        exact ⟨V, vc, rfl, hsv, UW.out.below0⟩
  · skip
    have U1 := Lib.hid (((Upd.refl (fun _ => False) w).alloc _).trans (Upd.of_below hd (fun _ => False)) (fun _ h => h.elim))
    have BA1 := Lib.hid (BA0.out.upd (Upd.of_below hd (fun _ => False)) (fun h => h))
    clear hd
    go_wp2
    refine Code.gen (fun W => Blk W w.heap.size 28 #[.slice A n c, .slice M m d, .int .i64 st, .int .i64 sp, .int .i64 cs, .int .u64 sa] ∧ Upd (fun _ => False) w W) ⟨BA1.out, U1.out⟩ ?_
    rintro W1 ⟨ba, uw⟩
    have BA1' := Lib.hid ba
    have UW1 := Lib.hid uw
    have hwb := ba.lt
    clear ba uw BA1 U1
    go_loopw [9, 12] (fun lv i wr => ∃ (k : Nat) (V : Option Addr) (vc : Nat), k ≤ m ∧ W1.heap.size ≤ wr.heap.size ∧ i = .int .i64 k ∧ lv = .slice V k vc ∧ Hid (wr.ownsRow W1.heap.size 60 5 (.slice V k vc) k (fl o5 ((ms.take k).map (fun x => (x.1, 4, cs, 0, now))))) ∧ Hid (Blk wr w.heap.size 28 #[.slice A n c, .slice M m d, .int .i64 st, .int .i64 sp, .int .i64 cs, .int .u64 sa]) ∧ Hid (Upd (fun _ => False) w wr)) (fun _ i _ => m - (intOf i).toNat)
    case atStart => exact ⟨0, none, 0, Nat.zero_le _, Nat.le_refl _, rfl, rfl, Lib.hid (own_nil _ _ _ _), BA1', UW1⟩
    case round =>
      obtain ⟨k, V, vc, hk, hbase, rfl, rfl, RO, BA, UW⟩ := hrel
      have ba := BA.out.cell
      have y0 := ba 0
      have y1 := ba 1
      have y2 := ba 2
      have y3 := ba 3
      have y4 := ba 4
      have y5 := ba 5
      have lba := BA.out.lt
      clear ba
      by_cases hlt : k < m
      · skip
        obtain ⟨⟨p, r⟩, hx⟩ : ∃ x, ms[k]? = some x := ⟨ms[k]'(by rw [HM.out]; exact hlt), List.getElem?_eq_getElem _⟩
        obtain ⟨mb, mo, e, hmb, c0, c1⟩ := (HS.out.upd0 UW.out).pr hx
        subst e
        simp only at c0 c1
        have HX := Lib.hid hx
        clear hx
        have i0' : (0 : Int) ≤ (k : Int) := Int.natCast_nonneg _
        have i1' : (k : Int) < (m : Int) := by omega
        go_wp2_with (at_builtin; go_loud (refine wpList_append_lies _ rfl _ _ 32 rfl W1.heap.size 60 i0 (.agg #[.int .i64 0, .int .i64 0, .int .i64 0, .int .i64 0, .int .u64 0]) 5 40 Try.underlying32 hj hz0 hz1 hz2 rfl (by decide) (.slice V k vc) k (fl o5 ((ms.take k).map (fun x => (x.1, 4, cs, 0, now)))) rfl (own_alloc (own_alloc RO.out _) _) ⟨wr.heap.size + 1, 0, none⟩ 1 1 [.int .i64 p, .int .i64 4, .int .i64 cs, .int .i64 0, .int .u64 now] rfl rfl (Blk.new1 wr _ #[.int .i64 p, .int .i64 4, .int .i64 cs, .int .i64 0, .int .u64 now] 60).news ?d5 (by omega) ?d7 ?d8 ?d9 (wr.heap.size + 1 + 1) (by simp) ?_); (case d5 => intro u hu; simp at hu; rcases hu with rfl | rfl | rfl | rfl | rfl <;> rfl); (case d7 => unfold maxLen; omega); (case d8 => omega); (case d9 => simp; omega); intro gg cp w4 hown hgrow hat hlt9; have U4 := Lib.hid (Upd.of_grown hgrow); have O4 : Hid (w4.ownsRow W1.heap.size 60 5 (.slice (some ⟨gg, 0, none⟩) (k + 1) cp) (k + 1) (fl o5 ((ms.take (k + 1)).map (fun x => (x.1, 4, cs, 0, now))))) := Lib.hid (by rw [fl_map (fun x => (x.1, 4, cs, 0, now)) HX.out]; exact hown); clear hown hgrow hat hlt9)
        go_roundw
        case rel => exact ⟨k + 1, some ⟨gg, 0, none⟩, cp, by omega, by have := U4.out.size; simp at this; omega, by go_num, rfl, O4, Lib.hid (((BA.out.alloc _).alloc _).upd U4.out (fun h => absurd (own_ge RO.out h) (Nat.not_le.2 (by omega)))), Lib.hid (((UW.out.alloc _).alloc _).trans U4.out (fun i hi => .inr (Nat.le_trans (by omega) (own_ge RO.out hi))))⟩
        case measure => simp [intOf]; omega
      · have hkm : k = m := by omega
        subst hkm
        have HMT : Hid (ms.take k = ms) := Lib.hid (List.take_of_length_le (by rw [HM.out]; exact Nat.le_refl _))
        go_wp2
        go_ret
        obtain ⟨V2, vc2, e, hsv, _⟩ := Sl.of_own RO.out
        injection e with e1 e2 e3
        subst e1
        subst e3
        rw [HMT.out] at hsv
        exact ⟨V, vc, rfl, hsv, UW.out.below0⟩

set_option maxHeartbeats 4000000 in
theorem routs_told1 (A M V : Option Addr) (n c m d q v : Nat) (st sp cs sa now : Int) (ms ps : List (Int × Int)) (vals : List Int) (hm : ms.length = m) (hv : vals.length = v) (hm1 : m ≤ 1000) (hn1 : n ≤ 1000) (hv1 : v ≤ 1000) (hvn : vals.length = n) (hp : psplit vals ms = some ps) (w : World) (hs : Sl w M m d (prs ms)) (hsv : Sl w V v q (nums vals)) :
    Calls Try.prog 14 #[.agg #[.slice A n c, .slice M m d, .int .i64 st, .int .i64 sp, .int .i64 cs, .int .u64 sa], .int .i64 1, .slice V v q, .int .u64 now] w fun e w' => ∃ A' c', e = .returned (.slice A' m c') ∧ Sl w' A' m c' (fl o5 (ps.map (fun x => (x.1, 1, 0, x.2, now)))) ∧ Below w.heap.size w w' := by
  have HP := Lib.hid hp
  have HVN := Lib.hid hvn
  have HL : Hid (ps.length = m) := Lib.hid ((psplit_len hp).trans hm)
  clear hp hvn
  have HM := Lib.hid hm
  have HV := Lib.hid hv
  have HS := Lib.hid hs
  have HS1 := Lib.hid (hs.alloc (.cells #[.slice A n c, .slice M m d, .int .i64 st, .int .i64 sp, .int .i64 cs, .int .u64 sa] 28))
  have HSV := Lib.hid (hsv.alloc (.cells #[.slice A n c, .slice M m d, .int .i64 st, .int .i64 sp, .int .i64 cs, .int .u64 sa] 28))
  have BA0 := Lib.hid (Blk.new w #[.slice A n c, .slice M m d, .int .i64 st, .int .i64 sp, .int .i64 cs, .int .u64 sa] 28)
  clear hm hs hv hsv
  obtain ⟨i0, hj, hz0, hz1, hz2⟩ := info_parts infoO
  go_enter Try.func14, Try.ntmps14
  go_wp2_with fail
  refine (rsplit_any A M V c d q n m v ms vals HM.out HV.out (by omega) hm1 hv1 _ HS1.out HSV.out).mono ?_
  rintro e w1 (⟨ps2, P, pc, _, hp2, rfl, hsp, hd⟩ | ⟨hor, rfl, hd⟩)
  rotate_left
  · exfalso
    rcases hor with h | h
    · exact h HVN.out
    · rw [HP.out] at h
      cases h
  have hps : ps2 = ps := by rw [HP.out] at hp2; exact (Option.some.inj hp2).symm
  subst hps
  obtain ⟨l0, hl0⟩ : ∃ l0, ps2.length = l0 := ⟨_, rfl⟩
  rw [hl0] at hsp
  have hlm : l0 = m := hl0.symm.trans HL.out
  have SP := Lib.hid hsp
  have U1 := Lib.hid (((Upd.refl (fun _ => False) w).alloc _).trans (Upd.of_below hd (fun _ => False)) (fun _ h => h.elim))
  have BA1 := Lib.hid (BA0.out.upd (Upd.of_below hd (fun _ => False)) (fun h => h))
  have HP2 := HP
  clear hd hsp hp2
  go_wp2
  clear hl0
  refine Code.gen (fun W => Blk W w.heap.size 28 #[.slice A n c, .slice M m d, .int .i64 st, .int .i64 sp, .int .i64 cs, .int .u64 sa] ∧ Upd (fun _ => False) w W ∧ Sl W P l0 pc (nums (ps2.map Prod.snd))) ⟨BA1.out, U1.out, SP.out⟩ ?_
  rintro W1 ⟨ba, uw, sp'⟩
  have BA1' := Lib.hid ba
  have UW1 := Lib.hid uw
  have PS1 := Lib.hid sp'
  have hwb := ba.lt
  clear ba uw sp' BA1 U1
  have PB : Hid (0 < m → ∀ b o, P = some ⟨b, o, none⟩ → b < W1.heap.size) := Lib.hid (fun hz b o e => by have := PS1.out.lt (by rw [nums_len, List.length_map, HL.out]; exact hz) e; exact this)
  go_loopw [9, 12] (fun lv i wr => ∃ (k : Nat) (V : Option Addr) (vc : Nat), k ≤ m ∧ W1.heap.size ≤ wr.heap.size ∧ i = .int .i64 k ∧ lv = .slice V k vc ∧ Hid (wr.ownsRow W1.heap.size 60 5 (.slice V k vc) k (fl o5 ((ps2.take k).map (fun x => (x.1, 1, 0, x.2, now))))) ∧ Hid (Blk wr w.heap.size 28 #[.slice A n c, .slice M m d, .int .i64 st, .int .i64 sp, .int .i64 cs, .int .u64 sa]) ∧ Hid (Sl wr P l0 pc (nums (ps2.map Prod.snd))) ∧ Hid (Upd (fun _ => False) w wr)) (fun _ i _ => m - (intOf i).toNat)
  case atStart => exact ⟨0, none, 0, Nat.zero_le _, Nat.le_refl _, rfl, rfl, Lib.hid (own_nil _ _ _ _), BA1', Lib.hid (PS1.out), UW1⟩
  case round =>
    obtain ⟨k, V, vc, hk, hbase, rfl, rfl, RO, BA, PS, UW⟩ := hrel
    have ba := BA.out.cell
    have y0 := ba 0
    have y1 := ba 1
    have y2 := ba 2
    have y3 := ba 3
    have y4 := ba 4
    have y5 := ba 5
    have lba := BA.out.lt
    clear ba
    by_cases hlt : k < m
    · skip
      obtain ⟨⟨p', r⟩, hm'⟩ : ∃ x, ms[k]? = some x := ⟨ms[k]'(by rw [HM.out]; exact hlt), List.getElem?_eq_getElem _⟩
      obtain ⟨rv, hx⟩ : ∃ rv, ps2[k]? = some (p', rv) := psplit_at HP.out k _ hm'
      obtain ⟨mb, mo, e, hmb, c0, c1⟩ := (HS.out.upd0 UW.out).pr hm'
      subst e
      simp only at c0 c1
      obtain ⟨vb, vo, e, hvb, v0⟩ := PS.out.num (i := k) (x := rv) (by rw [List.getElem?_map, hx]; rfl)
      subst e
      obtain ⟨p, hpp⟩ : ∃ p, p = p' := ⟨_, rfl⟩
      subst hpp
      have hkl : (k : Int) < (l0 : Int) := by omega
      have HX := Lib.hid hx
      clear hx hm'
      have i0' : (0 : Int) ≤ (k : Int) := Int.natCast_nonneg _
      have i1' : (k : Int) < (m : Int) := by omega
      go_wp2_with (at_builtin; go_loud (refine wpList_append_lies _ rfl _ _ 32 rfl W1.heap.size 60 i0 (.agg #[.int .i64 0, .int .i64 0, .int .i64 0, .int .i64 0, .int .u64 0]) 5 40 Try.underlying32 hj hz0 hz1 hz2 rfl (by decide) (.slice V k vc) k (fl o5 ((ps2.take k).map (fun x => (x.1, 1, 0, x.2, now)))) rfl (own_alloc (own_alloc RO.out _) _) ⟨wr.heap.size + 1, 0, none⟩ 1 1 [.int .i64 p, .int .i64 1, .int .i64 0, .int .i64 rv, .int .u64 now] rfl rfl (Blk.new1 wr _ #[.int .i64 p, .int .i64 1, .int .i64 0, .int .i64 rv, .int .u64 now] 60).news ?d5 (by omega) ?d7 ?d8 ?d9 (wr.heap.size + 1 + 1) (by simp) ?_); (case d5 => intro u hu; simp at hu; rcases hu with rfl | rfl | rfl | rfl | rfl <;> rfl); (case d7 => unfold maxLen; omega); (case d8 => omega); (case d9 => simp; omega); intro gg cp w4 hown hgrow hat hlt9; have U4 := Lib.hid (Upd.of_grown hgrow); have O4 : Hid (w4.ownsRow W1.heap.size 60 5 (.slice (some ⟨gg, 0, none⟩) (k + 1) cp) (k + 1) (fl o5 ((ps2.take (k + 1)).map (fun x => (x.1, 1, 0, x.2, now))))) := Lib.hid (by rw [fl_map (fun x => (x.1, 1, 0, x.2, now)) HX.out]; exact hown); clear hown hgrow hat hlt9)
      go_roundw
      case rel => exact ⟨k + 1, some ⟨gg, 0, none⟩, cp, by omega, by have := U4.out.size; simp at this; omega, by go_num, rfl, O4, Lib.hid (((BA.out.alloc _).alloc _).upd U4.out (fun h => absurd (own_ge RO.out h) (Nat.not_le.2 (by omega)))), Lib.hid (((PS.out.alloc _).alloc _).upd U4.out (fun b o e h => absurd (own_ge RO.out h) (Nat.not_le.2 (PB.out (by omega) b o e)))), Lib.hid (((UW.out.alloc _).alloc _).trans U4.out (fun i hi => .inr (Nat.le_trans (by omega) (own_ge RO.out hi))))⟩
      case measure => simp [intOf]; omega
    · have hkm : k = m := by omega
      subst hkm
      have HMT : Hid (ps2.take k = ps2) := Lib.hid (List.take_of_length_le (by rw [HL.out]; exact Nat.le_refl _))
      go_wp2
      go_ret
      obtain ⟨V2, vc2, e, hsv, _⟩ := Sl.of_own RO.out
      injection e with e1 e2 e3
      subst e1
      subst e3
      rw [HMT.out] at hsv
      exact ⟨V, vc, rfl, hsv, UW.out.below0⟩

set_option maxHeartbeats 4000000 in
theorem routs_told3 (A M V : Option Addr) (n c m d q v : Nat) (st sp cs sa now : Int) (ms ps : List (Int × Int)) (vals : List Int) (hm : ms.length = m) (hv : vals.length = v) (hm1 : m ≤ 1000) (hn1 : n ≤ 1000) (hv1 : v ≤ 1000) (hvn : vals.length = n) (hp : psplit vals ms = some ps) (w : World) (hs : Sl w M m d (prs ms)) (hsv : Sl w V v q (nums vals)) :
    Calls Try.prog 14 #[.agg #[.slice A n c, .slice M m d, .int .i64 st, .int .i64 sp, .int .i64 cs, .int .u64 sa], .int .i64 3, .slice V v q, .int .u64 now] w fun e w' => ∃ A' c', e = .returned (.slice A' m c') ∧ Sl w' A' m c' (fl o5 (ps.map (fun x => (x.1, 3, cs, x.2, now)))) ∧ Below w.heap.size w w' := by
  have HP := Lib.hid hp
  have HVN := Lib.hid hvn
  have HL : Hid (ps.length = m) := Lib.hid ((psplit_len hp).trans hm)
  clear hp hvn
  have HM := Lib.hid hm
  have HV := Lib.hid hv
  have HS := Lib.hid hs
  have HS1 := Lib.hid (hs.alloc (.cells #[.slice A n c, .slice M m d, .int .i64 st, .int .i64 sp, .int .i64 cs, .int .u64 sa] 28))
  have HSV := Lib.hid (hsv.alloc (.cells #[.slice A n c, .slice M m d, .int .i64 st, .int .i64 sp, .int .i64 cs, .int .u64 sa] 28))
  have BA0 := Lib.hid (Blk.new w #[.slice A n c, .slice M m d, .int .i64 st, .int .i64 sp, .int .i64 cs, .int .u64 sa] 28)
  clear hm hs hv hsv
  obtain ⟨i0, hj, hz0, hz1, hz2⟩ := info_parts infoO
  go_enter Try.func14, Try.ntmps14
  go_wp2_with fail
  refine (rsplit_any A M V c d q n m v ms vals HM.out HV.out (by omega) hm1 hv1 _ HS1.out HSV.out).mono ?_
  rintro e w1 (⟨ps2, P, pc, _, hp2, rfl, hsp, hd⟩ | ⟨hor, rfl, hd⟩)
  rotate_left
  · exfalso
    rcases hor with h | h
    · exact h HVN.out
    · rw [HP.out] at h
      cases h
  have hps : ps2 = ps := by rw [HP.out] at hp2; exact (Option.some.inj hp2).symm
  subst hps
  obtain ⟨l0, hl0⟩ : ∃ l0, ps2.length = l0 := ⟨_, rfl⟩
  rw [hl0] at hsp
  have hlm : l0 = m := hl0.symm.trans HL.out
  have SP := Lib.hid hsp
  have U1 := Lib.hid (((Upd.refl (fun _ => False) w).alloc _).trans (Upd.of_below hd (fun _ => False)) (fun _ h => h.elim))
  have BA1 := Lib.hid (BA0.out.upd (Upd.of_below hd (fun _ => False)) (fun h => h))
  have HP2 := HP
  clear hd hsp hp2
  go_wp2
  clear hl0
  refine Code.gen (fun W => Blk W w.heap.size 28 #[.slice A n c, .slice M m d, .int .i64 st, .int .i64 sp, .int .i64 cs, .int .u64 sa] ∧ Upd (fun _ => False) w W ∧ Sl W P l0 pc (nums (ps2.map Prod.snd))) ⟨BA1.out, U1.out, SP.out⟩ ?_
  rintro W1 ⟨ba, uw, sp'⟩
  have BA1' := Lib.hid ba
  have UW1 := Lib.hid uw
  have PS1 := Lib.hid sp'
  have hwb := ba.lt
  clear ba uw sp' BA1 U1
  have PB : Hid (0 < m → ∀ b o, P = some ⟨b, o, none⟩ → b < W1.heap.size) := Lib.hid (fun hz b o e => by have := PS1.out.lt (by rw [nums_len, List.length_map, HL.out]; exact hz) e; exact this)
  go_loopw [9, 12] (fun lv i wr => ∃ (k : Nat) (V : Option Addr) (vc : Nat), k ≤ m ∧ W1.heap.size ≤ wr.heap.size ∧ i = .int .i64 k ∧ lv = .slice V k vc ∧ Hid (wr.ownsRow W1.heap.size 60 5 (.slice V k vc) k (fl o5 ((ps2.take k).map (fun x => (x.1, 3, cs, x.2, now))))) ∧ Hid (Blk wr w.heap.size 28 #[.slice A n c, .slice M m d, .int .i64 st, .int .i64 sp, .int .i64 cs, .int .u64 sa]) ∧ Hid (Sl wr P l0 pc (nums (ps2.map Prod.snd))) ∧ Hid (Upd (fun _ => False) w wr)) (fun _ i _ => m - (intOf i).toNat)
  case atStart => exact ⟨0, none, 0, Nat.zero_le _, Nat.le_refl _, rfl, rfl, Lib.hid (own_nil _ _ _ _), BA1', Lib.hid (PS1.out), UW1⟩
  case round =>
    obtain ⟨k, V, vc, hk, hbase, rfl, rfl, RO, BA, PS, UW⟩ := hrel
    have ba := BA.out.cell
    have y0 := ba 0
    have y1 := ba 1
    have y2 := ba 2
    have y3 := ba 3
    have y4 := ba 4
    have y5 := ba 5
    have lba := BA.out.lt
    clear ba
    by_cases hlt : k < m
    · skip
      obtain ⟨⟨p', r⟩, hm'⟩ : ∃ x, ms[k]? = some x := ⟨ms[k]'(by rw [HM.out]; exact hlt), List.getElem?_eq_getElem _⟩
      obtain ⟨rv, hx⟩ : ∃ rv, ps2[k]? = some (p', rv) := psplit_at HP.out k _ hm'
      obtain ⟨mb, mo, e, hmb, c0, c1⟩ := (HS.out.upd0 UW.out).pr hm'
      subst e
      simp only at c0 c1
      obtain ⟨vb, vo, e, hvb, v0⟩ := PS.out.num (i := k) (x := rv) (by rw [List.getElem?_map, hx]; rfl)
      subst e
      obtain ⟨p, hpp⟩ : ∃ p, p = p' := ⟨_, rfl⟩
      subst hpp
      have hkl : (k : Int) < (l0 : Int) := by omega
      have HX := Lib.hid hx
      clear hx hm'
      have i0' : (0 : Int) ≤ (k : Int) := Int.natCast_nonneg _
      have i1' : (k : Int) < (m : Int) := by omega
      go_wp2_with (at_builtin; go_loud (refine wpList_append_lies _ rfl _ _ 32 rfl W1.heap.size 60 i0 (.agg #[.int .i64 0, .int .i64 0, .int .i64 0, .int .i64 0, .int .u64 0]) 5 40 Try.underlying32 hj hz0 hz1 hz2 rfl (by decide) (.slice V k vc) k (fl o5 ((ps2.take k).map (fun x => (x.1, 3, cs, x.2, now)))) rfl (own_alloc (own_alloc RO.out _) _) ⟨wr.heap.size + 1, 0, none⟩ 1 1 [.int .i64 p, .int .i64 3, .int .i64 cs, .int .i64 rv, .int .u64 now] rfl rfl (Blk.new1 wr _ #[.int .i64 p, .int .i64 3, .int .i64 cs, .int .i64 rv, .int .u64 now] 60).news ?d5 (by omega) ?d7 ?d8 ?d9 (wr.heap.size + 1 + 1) (by simp) ?_); (case d5 => intro u hu; simp at hu; rcases hu with rfl | rfl | rfl | rfl | rfl <;> rfl); (case d7 => unfold maxLen; omega); (case d8 => omega); (case d9 => simp; omega); intro gg cp w4 hown hgrow hat hlt9; have U4 := Lib.hid (Upd.of_grown hgrow); have O4 : Hid (w4.ownsRow W1.heap.size 60 5 (.slice (some ⟨gg, 0, none⟩) (k + 1) cp) (k + 1) (fl o5 ((ps2.take (k + 1)).map (fun x => (x.1, 3, cs, x.2, now))))) := Lib.hid (by rw [fl_map (fun x => (x.1, 3, cs, x.2, now)) HX.out]; exact hown); clear hown hgrow hat hlt9)
      go_roundw
      case rel => exact ⟨k + 1, some ⟨gg, 0, none⟩, cp, by omega, by have := U4.out.size; simp at this; omega, by go_num, rfl, O4, Lib.hid (((BA.out.alloc _).alloc _).upd U4.out (fun h => absurd (own_ge RO.out h) (Nat.not_le.2 (by omega)))), Lib.hid (((PS.out.alloc _).alloc _).upd U4.out (fun b o e h => absurd (own_ge RO.out h) (Nat.not_le.2 (PB.out (by omega) b o e)))), Lib.hid (((UW.out.alloc _).alloc _).trans U4.out (fun i hi => .inr (Nat.le_trans (by omega) (own_ge RO.out hi))))⟩
      case measure => simp [intOf]; omega
    · have hkm : k = m := by omega
      subst hkm
      have HMT : Hid (ps2.take k = ps2) := Lib.hid (List.take_of_length_le (by rw [HL.out]; exact Nat.le_refl _))
      go_wp2
      go_ret
      obtain ⟨V2, vc2, e, hsv, _⟩ := Sl.of_own RO.out
      injection e with e1 e2 e3
      subst e1
      subst e3
      rw [HMT.out] at hsv
      exact ⟨V, vc, rfl, hsv, UW.out.below0⟩

set_option maxHeartbeats 2000000 in
theorem routs_untold1 (A M V : Option Addr) (n c m d q v : Nat) (st sp cs sa now : Int) (ms : List (Int × Int)) (vals : List Int) (hm : ms.length = m) (hv : vals.length = v) (hm1 : m ≤ 1000) (hn1 : n ≤ 1000) (hv1 : v ≤ 1000) (hvn : vals.length ≠ n ∨ psplit vals ms = none) (w : World) (hs : Sl w M m d (prs ms)) (hsv : Sl w V v q (nums vals)) :
    Calls Try.prog 14 #[.agg #[.slice A n c, .slice M m d, .int .i64 st, .int .i64 sp, .int .i64 cs, .int .u64 sa], .int .i64 1, .slice V v q, .int .u64 now] w fun e w' => e = .returned (.slice none 0 0) ∧ Below w.heap.size w w' := by
  have HVN := Lib.hid hvn
  clear hvn
  have HM := Lib.hid hm
  have HV := Lib.hid hv
  have HS := Lib.hid hs
  have HS1 := Lib.hid (hs.alloc (.cells #[.slice A n c, .slice M m d, .int .i64 st, .int .i64 sp, .int .i64 cs, .int .u64 sa] 28))
  have HSV := Lib.hid (hsv.alloc (.cells #[.slice A n c, .slice M m d, .int .i64 st, .int .i64 sp, .int .i64 cs, .int .u64 sa] 28))
  have BA0 := Lib.hid (Blk.new w #[.slice A n c, .slice M m d, .int .i64 st, .int .i64 sp, .int .i64 cs, .int .u64 sa] 28)
  clear hm hs hv hsv
  obtain ⟨i0, hj, hz0, hz1, hz2⟩ := info_parts infoO
  go_enter Try.func14, Try.ntmps14
  go_wp2_with fail
  refine (rsplit_any A M V c d q n m v ms vals HM.out HV.out (by omega) hm1 hv1 _ HS1.out HSV.out).mono ?_
  rintro e w1 (⟨ps2, P, pc, hv2, hp2, rfl, hsp, hd⟩ | ⟨hor, rfl, hd⟩)
  · exfalso
    rcases HVN.out with h | h
    · exact h hv2
    · rw [h] at hp2
      cases hp2
  have U1 := Lib.hid (((Upd.refl (fun _ => False) w).alloc _).trans (Upd.of_below hd (fun _ => False)) (fun _ h => h.elim))
  clear hd hor
  go_wp2
  go_ret
  exact ⟨rfl, U1.out.below0⟩

set_option maxHeartbeats 2000000 in
theorem routs_untold3 (A M V : Option Addr) (n c m d q v : Nat) (st sp cs sa now : Int) (ms : List (Int × Int)) (vals : List Int) (hm : ms.length = m) (hv : vals.length = v) (hm1 : m ≤ 1000) (hn1 : n ≤ 1000) (hv1 : v ≤ 1000) (hvn : vals.length ≠ n ∨ psplit vals ms = none) (w : World) (hs : Sl w M m d (prs ms)) (hsv : Sl w V v q (nums vals)) :
    Calls Try.prog 14 #[.agg #[.slice A n c, .slice M m d, .int .i64 st, .int .i64 sp, .int .i64 cs, .int .u64 sa], .int .i64 3, .slice V v q, .int .u64 now] w fun e w' => e = .returned (.slice none 0 0) ∧ Below w.heap.size w w' := by
  have HVN := Lib.hid hvn
  clear hvn
  have HM := Lib.hid hm
  have HV := Lib.hid hv
  have HS := Lib.hid hs
  have HS1 := Lib.hid (hs.alloc (.cells #[.slice A n c, .slice M m d, .int .i64 st, .int .i64 sp, .int .i64 cs, .int .u64 sa] 28))
  have HSV := Lib.hid (hsv.alloc (.cells #[.slice A n c, .slice M m d, .int .i64 st, .int .i64 sp, .int .i64 cs, .int .u64 sa] 28))
  have BA0 := Lib.hid (Blk.new w #[.slice A n c, .slice M m d, .int .i64 st, .int .i64 sp, .int .i64 cs, .int .u64 sa] 28)
  clear hm hs hv hsv
  obtain ⟨i0, hj, hz0, hz1, hz2⟩ := info_parts infoO
  go_enter Try.func14, Try.ntmps14
  go_wp2_with fail
  refine (rsplit_any A M V c d q n m v ms vals HM.out HV.out (by omega) hm1 hv1 _ HS1.out HSV.out).mono ?_
  rintro e w1 (⟨ps2, P, pc, hv2, hp2, rfl, hsp, hd⟩ | ⟨hor, rfl, hd⟩)
  · exfalso
    rcases HVN.out with h | h
    · exact h hv2
    · rw [h] at hp2
      cases hp2
  have U1 := Lib.hid (((Upd.refl (fun _ => False) w).alloc _).trans (Upd.of_below hd (fun _ => False)) (fun _ h => h.elim))
  clear hd hor
  go_wp2
  go_ret
  exact ⟨rfl, U1.out.below0⟩

set_option maxHeartbeats 2000000 in
theorem routs_none (A M V : Option Addr) (n c m d q v : Nat) (st sp cs sa kind now : Int) (ms : List (Int × Int)) (vals : List Int) (hm : ms.length = m) (hv : vals.length = v) (hm1 : m ≤ 1000) (hn1 : n ≤ 1000) (hv1 : v ≤ 1000) (h : kind ≠ 1 ∧ kind ≠ 3 ∧ kind ≠ 4) (w : World) (hs : Sl w M m d (prs ms)) (hsv : Sl w V v q (nums vals)) :
    Calls Try.prog 14 #[.agg #[.slice A n c, .slice M m d, .int .i64 st, .int .i64 sp, .int .i64 cs, .int .u64 sa], .int .i64 kind, .slice V v q, .int .u64 now] w fun e w' => e = .returned (.slice none 0 0) ∧ Below w.heap.size w w' := by
  obtain ⟨h1, h3, h4⟩ := h
  have e1 : (kind != 1) = true := by simpa using h1
  have e3 : (kind != 3) = true := by simpa using h3
  have e4 : (kind != 4) = true := by simpa using h4
  clear h1 h3 h4
  have HM := Lib.hid hm
  have HV := Lib.hid hv
  have HS := Lib.hid hs
  have HS1 := Lib.hid (hs.alloc (.cells #[.slice A n c, .slice M m d, .int .i64 st, .int .i64 sp, .int .i64 cs, .int .u64 sa] 28))
  have HSV := Lib.hid (hsv.alloc (.cells #[.slice A n c, .slice M m d, .int .i64 st, .int .i64 sp, .int .i64 cs, .int .u64 sa] 28))
  have BA0 := Lib.hid (Blk.new w #[.slice A n c, .slice M m d, .int .i64 st, .int .i64 sp, .int .i64 cs, .int .u64 sa] 28)
  clear hm hs hv hsv
  obtain ⟨i0, hj, hz0, hz1, hz2⟩ := info_parts infoO
  go_enter Try.func14, Try.ntmps14
  go_wp2_with fail
  refine (rsplit_any A M V c d q n m v ms vals HM.out HV.out (by omega) hm1 hv1 _ HS1.out HSV.out).mono ?_
  rintro e w1 (⟨ps2, P, pc, hv2, hp2, rfl, hsp, hd⟩ | ⟨hor, rfl, hd⟩)
  · have U1 := Lib.hid (((Upd.refl (fun _ => False) w).alloc _).trans (Upd.of_below hd (fun _ => False)) (fun _ h => h.elim))
    clear hd hsp hp2 hv2
    go_wp2
    go_ret
    exact ⟨rfl, U1.out.below0⟩
  · have U1 := Lib.hid (((Upd.refl (fun _ => False) w).alloc _).trans (Upd.of_below hd (fun _ => False)) (fun _ h => h.elim))
    clear hd hor
    go_wp2
    go_ret
    exact ⟨rfl, U1.out.below0⟩
theorem routs_to {A M V : Option Addr} {n c m d q v r : Nat} {st sp cs sa kind now : Int} {ms : List (Int × Int)} {vals : List Int} {l : List O5} (hl : couts n ms cs kind vals now = l) (hr : l.length = r) (hm : ms.length = m) (hv : vals.length = v) (hm1 : m ≤ 1000) (hn1 : n ≤ 1000) (hv1 : v ≤ 1000) (w : World) (hs : Sl w M m d (prs ms)) (hsv : Sl w V v q (nums vals)) :
    Calls Try.prog 14 #[.agg #[.slice A n c, .slice M m d, .int .i64 st, .int .i64 sp, .int .i64 cs, .int .u64 sa], .int .i64 kind, .slice V v q, .int .u64 now] w fun e w' => ∃ A' c', e = .returned (.slice A' r c') ∧ Sl w' A' r c' (fl o5 l) ∧ Below w.heap.size w w' := by
  unfold couts at hl
  by_cases h4 : kind = 4
  · subst h4
    rw [if_pos rfl] at hl
    subst hl
    obtain rfl : m = r := by rw [← hm, ← hr, List.length_map]
    exact routs_failed A M V n c m d q v st sp cs sa now ms vals hm hv hm1 hn1 hv1 w hs hsv
  · rw [if_neg h4] at hl
    have none_ : ∀ w, l = [] → Calls Try.prog 14 #[.agg #[.slice A n c, .slice M m d, .int .i64 st, .int .i64 sp, .int .i64 cs, .int .u64 sa], .int .i64 kind, .slice V v q, .int .u64 now] w (fun e w' => e = .returned (.slice none 0 0) ∧ Below w.heap.size w w') → Calls Try.prog 14 #[.agg #[.slice A n c, .slice M m d, .int .i64 st, .int .i64 sp, .int .i64 cs, .int .u64 sa], .int .i64 kind, .slice V v q, .int .u64 now] w fun e w' => ∃ A' c', e = .returned (.slice A' r c') ∧ Sl w' A' r c' (fl o5 l) ∧ Below w.heap.size w w' := by
      intro w hl0 hc
      subst hl0
      refine hc.mono ?_
      rintro e w' ⟨rfl, hb⟩
      simp at hr
      subst hr
      exact ⟨none, 0, rfl, Sl.zero _, hb⟩
    by_cases h13 : kind = 1 ∨ kind = 3
    · rw [if_pos h13] at hl
      by_cases hvn : vals.length = n
      · rw [if_pos hvn] at hl
        cases hp : psplit vals ms with
        | none =>
          rw [hp] at hl
          refine none_ w hl.symm ?_
          rcases h13 with rfl | rfl
          · exact routs_untold1 A M V n c m d q v st sp cs sa now ms vals hm hv hm1 hn1 hv1 (.inr hp) w hs hsv
          · exact routs_untold3 A M V n c m d q v st sp cs sa now ms vals hm hv hm1 hn1 hv1 (.inr hp) w hs hsv
        | some ps =>
          rw [hp] at hl
          simp only at hl
          subst hl
          obtain rfl : m = r := by rw [← hm, ← hr, List.length_map, psplit_len hp]
          rcases h13 with rfl | rfl
          · exact routs_told1 A M V n c m d q v st sp cs sa now ms ps vals hm hv hm1 hn1 hv1 hvn hp w hs hsv
          · exact routs_told3 A M V n c m d q v st sp cs sa now ms ps vals hm hv hm1 hn1 hv1 hvn hp w hs hsv
      · rw [if_neg hvn] at hl
        refine none_ w hl.symm ?_
        rcases h13 with rfl | rfl
        · exact routs_untold1 A M V n c m d q v st sp cs sa now ms vals hm hv hm1 hn1 hv1 (.inl hvn) w hs hsv
        · exact routs_untold3 A M V n c m d q v st sp cs sa now ms vals hm hv hm1 hn1 hv1 (.inl hvn) w hs hsv
    · rw [if_neg h13] at hl
      exact none_ w hl.symm (routs_none A M V n c m d q v st sp cs sa kind now ms vals hm hv hm1 hn1 hv1 ⟨fun h => h13 (.inl h), fun h => h13 (.inr h), h4⟩ w hs hsv)
end Go.Proofs.Ytilpcgipjfegcaa
