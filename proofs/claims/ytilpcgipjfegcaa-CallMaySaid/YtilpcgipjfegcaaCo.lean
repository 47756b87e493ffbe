/- What came of a call's members. -/
import Derived.Test.YtilpcgipjfegcaaCl
import Derived.Test.YtilpcgipjfegcaaO5
namespace Go.Proofs.Ytilpcgipjfegcaa
open Go.RowKit
set_option linter.unusedVariables false
set_option linter.unusedSimpArgs false

/-- What came of the members. -/
def couts (n : Nat) (ms : List (Int × Int)) (cause kind : Int) (vals : List Int) (now : Int) : List O5 :=
  if kind = 4 then ms.map (fun m => (m.1, 4, cause, 0, now))
  else if kind = 1 ∨ kind = 3 then
    (if vals.length = n then match psplit vals ms with
      | some l => l.map (fun x => (x.1, kind, if kind = 1 then 0 else cause, x.2, now))
      | none => []
    else [])
  else []
set_option maxHeartbeats 1000000 in
theorem cout_any (A M : Option Addr) (n c m d : Nat) (st sp cs sa id kind val now cz : Int) (hz : (if kind = 1 then 0 else cs) = cz) (w : World) :
    Calls Try.prog 27 #[.agg #[.slice A n c, .slice M m d, .int .i64 st, .int .i64 sp, .int .i64 cs, .int .u64 sa], .int .i64 id, .int .i64 kind, .int .i64 val, .int .u64 now] w fun e w' => e = .returned (.agg #[.int .i64 id, .int .i64 kind, .int .i64 cz, .int .i64 val, .int .u64 now]) ∧ Below w.heap.size w w' := by
  by_cases h : kind = 1
  · subst h
    rw [if_pos rfl] at hz
    subst hz
    go_enter Try.func27, Try.ntmps27
    go_wp2
    exact bodyPost_ret (v := .agg #[.int .i64 id, .int .i64 1, .int .i64 0, .int .i64 val, .int .u64 now]) (by simp [results, Try.results27, go_sem]) rfl ⟨rfl, (by refine Upd.below0 ?_; repeat (first | exact Upd.refl _ _ | refine Upd.alloc ?_ _ | refine Upd.drew ?_ | refine Upd.drewN ?_ _))⟩
  · rw [if_neg h] at hz
    subst hz
    have hb : (kind == 1) = false := by simpa using h
    go_enter Try.func27, Try.ntmps27
    go_wp2
    exact bodyPost_ret (v := .agg #[.int .i64 id, .int .i64 kind, .int .i64 cs, .int .i64 val, .int .u64 now]) (by simp [results, Try.results27, go_sem]) rfl ⟨rfl, (by refine Upd.below0 ?_; repeat (first | exact Upd.refl _ _ | refine Upd.alloc ?_ _ | refine Upd.drew ?_ | refine Upd.drewN ?_ _))⟩

theorem fl_map {α : Type} (f : α → O5) {l : List α} {k : Nat} {x : α} (h : l[k]? = some x) : fl o5 ((l.take (k + 1)).map f) = fl o5 ((l.take k).map f) ++ o5 (f x) := by
  rw [take_snoc h, List.map_append, fl_app]
  simp [fl]

set_option maxHeartbeats 4000000 in
theorem outs_failed (A M V : Option Addr) (n c m d q v : Nat) (st sp cs sa now : Int) (ms : List (Int × Int)) (hm : ms.length = m) (hm1 : m ≤ 1000) (w : World) (hs : Sl w M m d (prs ms)) :
    Calls Try.prog 12 #[.agg #[.slice A n c, .slice M m d, .int .i64 st, .int .i64 sp, .int .i64 cs, .int .u64 sa], .int .i64 4, .slice V v q, .int .u64 now] w fun e w' => ∃ A' c', e = .returned (.slice A' m c') ∧ Sl w' A' m c' (fl o5 (ms.map (fun m => (m.1, 4, cs, 0, now)))) ∧ Below w.heap.size w w' := by
  have HM := Lib.hid hm
  have HS := Lib.hid hs
  clear hm hs
  obtain ⟨i0, hj, hz0, hz1, hz2⟩ := info_parts infoO
  go_enter Try.func12, Try.ntmps12
  go_wp2
  refine Code.gen (fun W => Blk W w.heap.size 38 #[.slice A n c, .slice M m d, .int .i64 st, .int .i64 sp, .int .i64 cs, .int .u64 sa] ∧ Upd (fun _ => False) w W ∧ w.heap.size + 1 ≤ W.heap.size) ⟨Blk.new _ _ _, (by repeat (first | exact Upd.refl _ _ | refine Upd.alloc ?_ _ | refine Upd.drew ?_ | refine Upd.drewN ?_ _ | refine Upd.put ?_ _ _)), by simp⟩ ?_
  rintro W1 ⟨ba, uw, hwb⟩
  have BA1 := Lib.hid ba
  have UW1 := Lib.hid uw
  clear ba uw
  go_loopw [9, 23] (fun lv i wr => ∃ (k : Nat) (V : Option Addr) (vc : Nat), k ≤ m ∧ W1.heap.size ≤ wr.heap.size ∧ i = .int .i64 k ∧ lv = .slice V k vc ∧ Hid (wr.ownsRow W1.heap.size 60 5 (.slice V k vc) k (fl o5 ((ms.take k).map (fun m => (m.1, 4, cs, 0, now))))) ∧ Hid (Blk wr w.heap.size 38 #[.slice A n c, .slice M m d, .int .i64 st, .int .i64 sp, .int .i64 cs, .int .u64 sa]) ∧ Hid (Upd (fun _ => False) w wr)) (fun _ i _ => m - (intOf i).toNat)
  case atStart => exact ⟨0, none, 0, Nat.zero_le _, Nat.le_refl _, rfl, rfl, Lib.hid (own_nil _ _ _ _), BA1, UW1⟩
  case round =>
    obtain ⟨k, V, vc, hk, hbase, rfl, rfl, RO, BA, UW⟩ := hrel
    by_cases hlt : k < m
    · obtain ⟨⟨p, r⟩, hx⟩ : ∃ x, ms[k]? = some x := ⟨ms[k]'(by rw [HM.out]; exact hlt), List.getElem?_eq_getElem _⟩
      obtain ⟨mb, mo, e, hmb, c0, c1⟩ := (HS.out.upd0 UW.out).pr hx
      subst e
      simp only at c0 c1
      have HX := Lib.hid hx
      have i0' : (0 : Int) ≤ (k : Int) := Int.natCast_nonneg _
      have i1' : (k : Int) < (m : Int) := by omega
      have ba := BA.out.cell
      have y0 := ba 0
      have y1 := ba 1
      have y2 := ba 2
      have y3 := ba 3
      have y4 := ba 4
      have y5 := ba 5
      have lba := BA.out.lt
      clear hx ba
      go_wp2_with (first | (go_at_call 27; refine (cout_any _ _ _ _ _ _ _ _ _ _ _ _ _ _ cs (by simp) _).mono ?_; rintro e w3 ⟨rfl, hd⟩; have U3 : Hid (Upd (fun _ => False) wr w3) := Lib.hid (((Upd.refl (fun _ => False) wr).alloc _).trans (Upd.of_below hd (fun _ => False)) (fun _ h => h.elim)); clear hd y0 y1 y2 y3 y4 y5 c0 c1) | (at_builtin; go_loud (refine wpList_append_lies _ rfl _ _ 32 rfl W1.heap.size 60 i0 (.agg #[.int .i64 0, .int .i64 0, .int .i64 0, .int .i64 0, .int .u64 0]) 5 40 Try.underlying32 hj hz0 hz1 hz2 rfl (by decide) (.slice V k vc) k (fl o5 ((ms.take k).map (fun m => (m.1, 4, cs, 0, now)))) rfl (own_alloc (own_upd0 RO.out U3.out) _) ⟨w3.heap.size, 0, none⟩ 1 1 [.int .i64 p, .int .i64 4, .int .i64 cs, .int .i64 0, .int .u64 now] rfl rfl (Blk.new w3 #[.int .i64 p, .int .i64 4, .int .i64 cs, .int .i64 0, .int .u64 now] 60).news ?d5 (by omega) ?d7 ?d8 ?d9 (w3.heap.size + 1) (by simp) ?_); (case d5 => intro u hu; simp at hu; rcases hu with rfl | rfl | rfl | rfl | rfl <;> rfl); (case d7 => unfold maxLen; omega); (case d8 => omega); (case d9 => have := U3.out.size; simp; omega); intro gg cp w4 hown hgrow hat hlt9; have U4 := Lib.hid (Upd.of_grown hgrow); have O4 : Hid (w4.ownsRow W1.heap.size 60 5 (.slice (some ⟨gg, 0, none⟩) (k + 1) cp) (k + 1) (fl o5 ((ms.take (k + 1)).map (fun m => (m.1, 4, cs, 0, now))))) := Lib.hid (by rw [fl_map _ HX.out]; exact hown); clear hown hgrow hat hlt9))
      go_roundw
      case rel => exact ⟨k + 1, some ⟨gg, 0, none⟩, cp, by omega, by have := U3.out.size; have := U4.out.size; simp at this; omega, by go_num, rfl, O4, Lib.hid (((BA.out.upd U3.out (fun h => h)).alloc _).upd U4.out (fun h => absurd (own_ge RO.out h) (Nat.not_le.2 (by omega)))), Lib.hid (((UW.out.trans U3.out (fun _ h => h.elim)).alloc _).trans U4.out (fun i hi => .inr (Nat.le_trans (by omega) (own_ge RO.out hi))))⟩
      case measure => simp [intOf]; omega
    · have hkm : k = m := by omega
      subst hkm
      have HMT : Hid (ms.take k = ms) := Lib.hid (List.take_of_length_le (by rw [HM.out]; exact Nat.le_refl _))
      go_wp2
      go_ret
      obtain ⟨V2, vc2, e, hsv, _⟩ := Sl.of_own RO.out
      injection e with e1 e2 e3
      subst e1
      subst e3
      rw [HMT.out] at hsv
      exact ⟨V, vc, rfl, hsv, UW.out.below0⟩

set_option maxHeartbeats 4000000 in
theorem outs_told1 (A M V : Option Addr) (n c m d q v : Nat) (st sp cs sa now : Int) (ms ps : List (Int × Int)) (vals : List Int) (hm : ms.length = m) (hv : vals.length = v) (hm1 : m ≤ 1000) (hn1 : n ≤ 1000) (hvn : v = n) (hp : psplit vals ms = some ps) (w : World) (hs : Sl w M m d (prs ms)) (hsv : Sl w V v q (nums vals)) :
    Calls Try.prog 12 #[.agg #[.slice A n c, .slice M m d, .int .i64 st, .int .i64 sp, .int .i64 cs, .int .u64 sa], .int .i64 1, .slice V v q, .int .u64 now] w fun e w' => ∃ A' c', e = .returned (.slice A' m c') ∧ Sl w' A' m c' (fl o5 (ps.map (fun x => (x.1, 1, 0, x.2, now)))) ∧ Below w.heap.size w w' := by
  have HM := Lib.hid hm
  have HV := Lib.hid hv
  have HP := Lib.hid hp
  have HL : Hid (ps.length = m) := Lib.hid ((psplit_len hp).trans hm)
  have HS := Lib.hid (hs.alloc (.cells #[.slice A n c, .slice M m d, .int .i64 st, .int .i64 sp, .int .i64 cs, .int .u64 sa] 38))
  have HSV := Lib.hid (hsv.alloc (.cells #[.slice A n c, .slice M m d, .int .i64 st, .int .i64 sp, .int .i64 cs, .int .u64 sa] 38))
  have BA0 := Lib.hid (Blk.new w #[.slice A n c, .slice M m d, .int .i64 st, .int .i64 sp, .int .i64 cs, .int .u64 sa] 38)
  have HVN := Lib.hid hvn
  clear hm hs hv hp hsv hvn
  obtain ⟨i0, hj, hz0, hz1, hz2⟩ := info_parts infoO
  go_enter Try.func12, Try.ntmps12
  go_wp2_with fail
  refine (split_to HM.out HV.out HL.out HVN.out HP.out (by omega) hm1 _ HS.out HSV.out).mono ?_
  rintro e w1 ⟨P, pc, rfl, hsp, hd⟩
  have U1 := Lib.hid (((Upd.refl (fun _ => False) w).alloc _).trans (Upd.of_below hd (fun _ => False)) (fun _ h => h.elim))
  have SP := Lib.hid hsp
  have BA1 := Lib.hid (BA0.out.upd (Upd.of_below hd (fun _ => False)) (fun h => h))
  clear hsp hd BA0
  go_wp2
  refine Code.gen (fun W => Blk W w.heap.size 38 #[.slice A n c, .slice M m d, .int .i64 st, .int .i64 sp, .int .i64 cs, .int .u64 sa] ∧ Upd (fun _ => False) w W ∧ Sl W P m pc (prs ps)) ⟨BA1.out, U1.out, SP.out⟩ ?_
  rintro W1 ⟨ba, uw, sp'⟩
  have BA1' := Lib.hid ba
  have UW1 := Lib.hid uw
  have SP1 := Lib.hid sp'
  have hwb := ba.lt
  clear ba uw sp' BA1 U1 SP
  go_loopw [9, 49] (fun lv i wr => ∃ (k : Nat) (V : Option Addr) (vc : Nat), k ≤ m ∧ W1.heap.size ≤ wr.heap.size ∧ i = .int .i64 k ∧ lv = .slice V k vc ∧ Hid (wr.ownsRow W1.heap.size 60 5 (.slice V k vc) k (fl o5 ((ps.take k).map (fun x => (x.1, 1, 0, x.2, now))))) ∧ Hid (Blk wr w.heap.size 38 #[.slice A n c, .slice M m d, .int .i64 st, .int .i64 sp, .int .i64 cs, .int .u64 sa]) ∧ Hid (Sl wr P m pc (prs ps)) ∧ Hid (0 < m → ∀ b o, P = some ⟨b, o, none⟩ → b < W1.heap.size) ∧ Hid (Upd (fun _ => False) w wr)) (fun _ i _ => m - (intOf i).toNat)
  case atStart => exact ⟨0, none, 0, Nat.zero_le _, Nat.le_refl _, rfl, rfl, Lib.hid (own_nil _ _ _ _), BA1', SP1, Lib.hid (fun hz b o e => SP1.out.lt (by rw [prs_len, HL.out]; omega) e), UW1⟩
  case round =>
    obtain ⟨k, V, vc, hk, hbase, rfl, rfl, RO, BA, SP, PB, UW⟩ := hrel
    by_cases hlt : k < m
    · obtain ⟨⟨p, r⟩, hx⟩ : ∃ x, ps[k]? = some x := ⟨ps[k]'(by rw [HL.out]; exact hlt), List.getElem?_eq_getElem _⟩
      obtain ⟨mb, mo, e, hmb, c0, c1⟩ := SP.out.pr hx
      have hpb : mb < W1.heap.size := PB.out (by omega) mb mo e
      subst e
      simp only at c0 c1
      have HX := Lib.hid hx
      have i0' : (0 : Int) ≤ (k : Int) := Int.natCast_nonneg _
      have i1' : (k : Int) < (m : Int) := by omega
      have ba := BA.out.cell
      have y0 := ba 0
      have y1 := ba 1
      have y2 := ba 2
      have y3 := ba 3
      have y4 := ba 4
      have y5 := ba 5
      have lba := BA.out.lt
      clear hx ba
      go_wp2_with (first | (go_at_call 27; refine (cout_any _ _ _ _ _ _ _ _ _ _ _ _ _ _ (0) (by simp) _).mono ?_; rintro e w3 ⟨rfl, hd⟩; have U3 : Hid (Upd (fun _ => False) wr w3) := Lib.hid (((Upd.refl (fun _ => False) wr).alloc _).trans (Upd.of_below hd (fun _ => False)) (fun _ h => h.elim)); clear hd y0 y1 y2 y3 y4 y5 c0 c1) | (at_builtin; go_loud (refine wpList_append_lies _ rfl _ _ 32 rfl W1.heap.size 60 i0 (.agg #[.int .i64 0, .int .i64 0, .int .i64 0, .int .i64 0, .int .u64 0]) 5 40 Try.underlying32 hj hz0 hz1 hz2 rfl (by decide) (.slice V k vc) k (fl o5 ((ps.take k).map (fun x => (x.1, 1, 0, x.2, now)))) rfl (own_alloc (own_upd0 RO.out U3.out) _) ⟨w3.heap.size, 0, none⟩ 1 1 [.int .i64 p, .int .i64 1, .int .i64 0, .int .i64 r, .int .u64 now] rfl rfl (Blk.new w3 #[.int .i64 p, .int .i64 1, .int .i64 0, .int .i64 r, .int .u64 now] 60).news ?d5 (by omega) ?d7 ?d8 ?d9 (w3.heap.size + 1) (by simp) ?_); (case d5 => intro u hu; simp at hu; rcases hu with rfl | rfl | rfl | rfl | rfl <;> rfl); (case d7 => unfold maxLen; omega); (case d8 => omega); (case d9 => have := U3.out.size; simp; omega); intro gg cp w4 hown hgrow hat hlt9; have U4 := Lib.hid (Upd.of_grown hgrow); have O4 : Hid (w4.ownsRow W1.heap.size 60 5 (.slice (some ⟨gg, 0, none⟩) (k + 1) cp) (k + 1) (fl o5 ((ps.take (k + 1)).map (fun x => (x.1, 1, 0, x.2, now))))) := Lib.hid (by rw [fl_map _ HX.out]; exact hown); clear hown hgrow hat hlt9))
      go_roundw
      case rel => exact ⟨k + 1, some ⟨gg, 0, none⟩, cp, by omega, by have := U3.out.size; have := U4.out.size; simp at this; omega, by go_num, rfl, O4, Lib.hid (((BA.out.upd U3.out (fun h => h)).alloc _).upd U4.out (fun h => absurd (own_ge RO.out h) (Nat.not_le.2 (by omega)))), Lib.hid (((SP.out.upd0 U3.out).alloc _).upd U4.out (fun b o e h => absurd (own_ge RO.out h) (Nat.not_le.2 (PB.out (by omega) b o e)))), PB, Lib.hid (((UW.out.trans U3.out (fun _ h => h.elim)).alloc _).trans U4.out (fun i hi => .inr (Nat.le_trans (by omega) (own_ge RO.out hi))))⟩
      case measure => simp [intOf]; omega
    · have hkm : k = m := by omega
      subst hkm
      have HMT : Hid (ps.take k = ps) := Lib.hid (List.take_of_length_le (by rw [HL.out]; exact Nat.le_refl _))
      go_wp2
      go_ret
      obtain ⟨V2, vc2, e, hsv, _⟩ := Sl.of_own RO.out
      injection e with e1 e2 e3
      subst e1
      subst e3
      rw [HMT.out] at hsv
      exact ⟨V, vc, rfl, hsv, UW.out.below0⟩

set_option maxHeartbeats 2000000 in
theorem outs_untold1 (A M V : Option Addr) (n c m d q v : Nat) (st sp cs sa now : Int) (ms : List (Int × Int)) (vals : List Int) (hm : ms.length = m) (hv : vals.length = v) (hm1 : m ≤ 1000) (hn1 : n ≤ 1000) (hvn : v ≠ n ∨ psplit vals ms = none) (w : World) (hs : Sl w M m d (prs ms)) (hsv : Sl w V v q (nums vals)) :
    Calls Try.prog 12 #[.agg #[.slice A n c, .slice M m d, .int .i64 st, .int .i64 sp, .int .i64 cs, .int .u64 sa], .int .i64 1, .slice V v q, .int .u64 now] w fun e w' => e = .returned (.slice none 0 0) ∧ Below w.heap.size w w' := by
  have HM := Lib.hid hm
  have HV := Lib.hid hv
  have HS := Lib.hid (hs.alloc (.cells #[.slice A n c, .slice M m d, .int .i64 st, .int .i64 sp, .int .i64 cs, .int .u64 sa] 38))
  have HSV := Lib.hid (hsv.alloc (.cells #[.slice A n c, .slice M m d, .int .i64 st, .int .i64 sp, .int .i64 cs, .int .u64 sa] 38))
  have HVN := Lib.hid hvn
  clear hm hs hv hsv hvn
  go_enter Try.func12, Try.ntmps12
  go_wp2_with fail
  have hc := split_any A M V c d q n ms vals (by omega) (by rw [HM.out]; exact hm1) (w.alloc (.cells #[.slice A n c, .slice M m d, .int .i64 st, .int .i64 sp, .int .i64 cs, .int .u64 sa] 38)) (by rw [HM.out]; exact HS.out) (by rw [HV.out]; exact HSV.out)
  rw [HM.out, HV.out] at hc
  refine hc.mono ?_
  clear hc
  rintro e w1 (⟨p, P, pc, hv2, hp, rfl, _, hd⟩ | ⟨_, rfl, hd⟩)
  · exfalso
    rcases HVN.out with h | h
    · exact h (HV.out.symm.trans hv2)
    · rw [h] at hp
      cases hp
  have U1 := Lib.hid (((Upd.refl (fun _ => False) w).alloc _).trans (Upd.of_below hd (fun _ => False)) (fun _ h => h.elim))
  clear hd
  go_wp2
  go_loopw [9, 49] (fun lv i wr => i = .int .i64 0 ∧ lv = .slice none 0 0 ∧ Hid (Upd (fun _ => False) w wr)) (fun _ i _ => 0)
  case atStart => exact ⟨rfl, rfl, U1⟩
  case round =>
    obtain ⟨rfl, rfl, UW⟩ := hrel
    go_wp2
    go_ret
    exact ⟨rfl, UW.out.below0⟩

set_option maxHeartbeats 4000000 in
theorem outs_told3 (A M V : Option Addr) (n c m d q v : Nat) (st sp cs sa now : Int) (ms ps : List (Int × Int)) (vals : List Int) (hm : ms.length = m) (hv : vals.length = v) (hm1 : m ≤ 1000) (hn1 : n ≤ 1000) (hvn : v = n) (hp : psplit vals ms = some ps) (w : World) (hs : Sl w M m d (prs ms)) (hsv : Sl w V v q (nums vals)) :
    Calls Try.prog 12 #[.agg #[.slice A n c, .slice M m d, .int .i64 st, .int .i64 sp, .int .i64 cs, .int .u64 sa], .int .i64 3, .slice V v q, .int .u64 now] w fun e w' => ∃ A' c', e = .returned (.slice A' m c') ∧ Sl w' A' m c' (fl o5 (ps.map (fun x => (x.1, 3, cs, x.2, now)))) ∧ Below w.heap.size w w' := by
  have HM := Lib.hid hm
  have HV := Lib.hid hv
  have HP := Lib.hid hp
  have HL : Hid (ps.length = m) := Lib.hid ((psplit_len hp).trans hm)
  have HS := Lib.hid (hs.alloc (.cells #[.slice A n c, .slice M m d, .int .i64 st, .int .i64 sp, .int .i64 cs, .int .u64 sa] 38))
  have HSV := Lib.hid (hsv.alloc (.cells #[.slice A n c, .slice M m d, .int .i64 st, .int .i64 sp, .int .i64 cs, .int .u64 sa] 38))
  have BA0 := Lib.hid (Blk.new w #[.slice A n c, .slice M m d, .int .i64 st, .int .i64 sp, .int .i64 cs, .int .u64 sa] 38)
  have HVN := Lib.hid hvn
  clear hm hs hv hp hsv hvn
  obtain ⟨i0, hj, hz0, hz1, hz2⟩ := info_parts infoO
  go_enter Try.func12, Try.ntmps12
  go_wp2_with fail
  refine (split_to HM.out HV.out HL.out HVN.out HP.out (by omega) hm1 _ HS.out HSV.out).mono ?_
  rintro e w1 ⟨P, pc, rfl, hsp, hd⟩
  have U1 := Lib.hid (((Upd.refl (fun _ => False) w).alloc _).trans (Upd.of_below hd (fun _ => False)) (fun _ h => h.elim))
  have SP := Lib.hid hsp
  have BA1 := Lib.hid (BA0.out.upd (Upd.of_below hd (fun _ => False)) (fun h => h))
  clear hsp hd BA0
  go_wp2
  refine Code.gen (fun W => Blk W w.heap.size 38 #[.slice A n c, .slice M m d, .int .i64 st, .int .i64 sp, .int .i64 cs, .int .u64 sa] ∧ Upd (fun _ => False) w W ∧ Sl W P m pc (prs ps)) ⟨BA1.out, U1.out, SP.out⟩ ?_
  rintro W1 ⟨ba, uw, sp'⟩
  have BA1' := Lib.hid ba
  have UW1 := Lib.hid uw
  have SP1 := Lib.hid sp'
  have hwb := ba.lt
  clear ba uw sp' BA1 U1 SP
  go_loopw [9, 49] (fun lv i wr => ∃ (k : Nat) (V : Option Addr) (vc : Nat), k ≤ m ∧ W1.heap.size ≤ wr.heap.size ∧ i = .int .i64 k ∧ lv = .slice V k vc ∧ Hid (wr.ownsRow W1.heap.size 60 5 (.slice V k vc) k (fl o5 ((ps.take k).map (fun x => (x.1, 3, cs, x.2, now))))) ∧ Hid (Blk wr w.heap.size 38 #[.slice A n c, .slice M m d, .int .i64 st, .int .i64 sp, .int .i64 cs, .int .u64 sa]) ∧ Hid (Sl wr P m pc (prs ps)) ∧ Hid (0 < m → ∀ b o, P = some ⟨b, o, none⟩ → b < W1.heap.size) ∧ Hid (Upd (fun _ => False) w wr)) (fun _ i _ => m - (intOf i).toNat)
  case atStart => exact ⟨0, none, 0, Nat.zero_le _, Nat.le_refl _, rfl, rfl, Lib.hid (own_nil _ _ _ _), BA1', SP1, Lib.hid (fun hz b o e => SP1.out.lt (by rw [prs_len, HL.out]; omega) e), UW1⟩
  case round =>
    obtain ⟨k, V, vc, hk, hbase, rfl, rfl, RO, BA, SP, PB, UW⟩ := hrel
    by_cases hlt : k < m
    · obtain ⟨⟨p, r⟩, hx⟩ : ∃ x, ps[k]? = some x := ⟨ps[k]'(by rw [HL.out]; exact hlt), List.getElem?_eq_getElem _⟩
      obtain ⟨mb, mo, e, hmb, c0, c1⟩ := SP.out.pr hx
      have hpb : mb < W1.heap.size := PB.out (by omega) mb mo e
      subst e
      simp only at c0 c1
      have HX := Lib.hid hx
      have i0' : (0 : Int) ≤ (k : Int) := Int.natCast_nonneg _
      have i1' : (k : Int) < (m : Int) := by omega
      have ba := BA.out.cell
      have y0 := ba 0
      have y1 := ba 1
      have y2 := ba 2
      have y3 := ba 3
      have y4 := ba 4
      have y5 := ba 5
      have lba := BA.out.lt
      clear hx ba
      go_wp2_with (first | (go_at_call 27; refine (cout_any _ _ _ _ _ _ _ _ _ _ _ _ _ _ (cs) (by simp) _).mono ?_; rintro e w3 ⟨rfl, hd⟩; have U3 : Hid (Upd (fun _ => False) wr w3) := Lib.hid (((Upd.refl (fun _ => False) wr).alloc _).trans (Upd.of_below hd (fun _ => False)) (fun _ h => h.elim)); clear hd y0 y1 y2 y3 y4 y5 c0 c1) | (at_builtin; go_loud (refine wpList_append_lies _ rfl _ _ 32 rfl W1.heap.size 60 i0 (.agg #[.int .i64 0, .int .i64 0, .int .i64 0, .int .i64 0, .int .u64 0]) 5 40 Try.underlying32 hj hz0 hz1 hz2 rfl (by decide) (.slice V k vc) k (fl o5 ((ps.take k).map (fun x => (x.1, 3, cs, x.2, now)))) rfl (own_alloc (own_upd0 RO.out U3.out) _) ⟨w3.heap.size, 0, none⟩ 1 1 [.int .i64 p, .int .i64 3, .int .i64 cs, .int .i64 r, .int .u64 now] rfl rfl (Blk.new w3 #[.int .i64 p, .int .i64 3, .int .i64 cs, .int .i64 r, .int .u64 now] 60).news ?d5 (by omega) ?d7 ?d8 ?d9 (w3.heap.size + 1) (by simp) ?_); (case d5 => intro u hu; simp at hu; rcases hu with rfl | rfl | rfl | rfl | rfl <;> rfl); (case d7 => unfold maxLen; omega); (case d8 => omega); (case d9 => have := U3.out.size; simp; omega); intro gg cp w4 hown hgrow hat hlt9; have U4 := Lib.hid (Upd.of_grown hgrow); have O4 : Hid (w4.ownsRow W1.heap.size 60 5 (.slice (some ⟨gg, 0, none⟩) (k + 1) cp) (k + 1) (fl o5 ((ps.take (k + 1)).map (fun x => (x.1, 3, cs, x.2, now))))) := Lib.hid (by rw [fl_map _ HX.out]; exact hown); clear hown hgrow hat hlt9))
      go_roundw
      case rel => exact ⟨k + 1, some ⟨gg, 0, none⟩, cp, by omega, by have := U3.out.size; have := U4.out.size; simp at this; omega, by go_num, rfl, O4, Lib.hid (((BA.out.upd U3.out (fun h => h)).alloc _).upd U4.out (fun h => absurd (own_ge RO.out h) (Nat.not_le.2 (by omega)))), Lib.hid (((SP.out.upd0 U3.out).alloc _).upd U4.out (fun b o e h => absurd (own_ge RO.out h) (Nat.not_le.2 (PB.out (by omega) b o e)))), PB, Lib.hid (((UW.out.trans U3.out (fun _ h => h.elim)).alloc _).trans U4.out (fun i hi => .inr (Nat.le_trans (by omega) (own_ge RO.out hi))))⟩
      case measure => simp [intOf]; omega
    · have hkm : k = m := by omega
      subst hkm
      have HMT : Hid (ps.take k = ps) := Lib.hid (List.take_of_length_le (by rw [HL.out]; exact Nat.le_refl _))
      go_wp2
      go_ret
      obtain ⟨V2, vc2, e, hsv, _⟩ := Sl.of_own RO.out
      injection e with e1 e2 e3
      subst e1
      subst e3
      rw [HMT.out] at hsv
      exact ⟨V, vc, rfl, hsv, UW.out.below0⟩

set_option maxHeartbeats 2000000 in
theorem outs_untold3 (A M V : Option Addr) (n c m d q v : Nat) (st sp cs sa now : Int) (ms : List (Int × Int)) (vals : List Int) (hm : ms.length = m) (hv : vals.length = v) (hm1 : m ≤ 1000) (hn1 : n ≤ 1000) (hvn : v ≠ n ∨ psplit vals ms = none) (w : World) (hs : Sl w M m d (prs ms)) (hsv : Sl w V v q (nums vals)) :
    Calls Try.prog 12 #[.agg #[.slice A n c, .slice M m d, .int .i64 st, .int .i64 sp, .int .i64 cs, .int .u64 sa], .int .i64 3, .slice V v q, .int .u64 now] w fun e w' => e = .returned (.slice none 0 0) ∧ Below w.heap.size w w' := by
  have HM := Lib.hid hm
  have HV := Lib.hid hv
  have HS := Lib.hid (hs.alloc (.cells #[.slice A n c, .slice M m d, .int .i64 st, .int .i64 sp, .int .i64 cs, .int .u64 sa] 38))
  have HSV := Lib.hid (hsv.alloc (.cells #[.slice A n c, .slice M m d, .int .i64 st, .int .i64 sp, .int .i64 cs, .int .u64 sa] 38))
  have HVN := Lib.hid hvn
  clear hm hs hv hsv hvn
  go_enter Try.func12, Try.ntmps12
  go_wp2_with fail
  have hc := split_any A M V c d q n ms vals (by omega) (by rw [HM.out]; exact hm1) (w.alloc (.cells #[.slice A n c, .slice M m d, .int .i64 st, .int .i64 sp, .int .i64 cs, .int .u64 sa] 38)) (by rw [HM.out]; exact HS.out) (by rw [HV.out]; exact HSV.out)
  rw [HM.out, HV.out] at hc
  refine hc.mono ?_
  clear hc
  rintro e w1 (⟨p, P, pc, hv2, hp, rfl, _, hd⟩ | ⟨_, rfl, hd⟩)
  · exfalso
    rcases HVN.out with h | h
    · exact h (HV.out.symm.trans hv2)
    · rw [h] at hp
      cases hp
  have U1 := Lib.hid (((Upd.refl (fun _ => False) w).alloc _).trans (Upd.of_below hd (fun _ => False)) (fun _ h => h.elim))
  clear hd
  go_wp2
  go_loopw [9, 49] (fun lv i wr => i = .int .i64 0 ∧ lv = .slice none 0 0 ∧ Hid (Upd (fun _ => False) w wr)) (fun _ i _ => 0)
  case atStart => exact ⟨rfl, rfl, U1⟩
  case round =>
    obtain ⟨rfl, rfl, UW⟩ := hrel
    go_wp2
    go_ret
    exact ⟨rfl, UW.out.below0⟩

set_option maxHeartbeats 1000000 in
theorem outs_none (A M V : Option Addr) (n c m d q v : Nat) (st sp cs sa kind now : Int) (h : kind ≠ 1 ∧ kind ≠ 3 ∧ kind ≠ 4) (w : World) :
    Calls Try.prog 12 #[.agg #[.slice A n c, .slice M m d, .int .i64 st, .int .i64 sp, .int .i64 cs, .int .u64 sa], .int .i64 kind, .slice V v q, .int .u64 now] w fun e w' => e = .returned (.slice none 0 0) ∧ Below w.heap.size w w' := by
  obtain ⟨h1, h3, h4⟩ := h
  have e1 : (kind == 1) = false := by simpa using h1
  have e3 : (kind == 3) = false := by simpa using h3
  have e4 : (kind == 4) = false := by simpa using h4
  clear h1 h3 h4
  go_enter Try.func12, Try.ntmps12
  go_wp2
  go_ret
  exact ⟨rfl, (by refine Upd.below0 ?_; repeat (first | exact Upd.refl _ _ | refine Upd.alloc ?_ _ | refine Upd.drew ?_ | refine Upd.drewN ?_ _))⟩
/-- What Outs tells, of whatever kind. -/
theorem outs_to {A M V : Option Addr} {n c m d q v r : Nat} {st sp cs sa kind now : Int} {ms : List (Int × Int)} {vals : List Int} {l : List O5} (hl : couts n ms cs kind vals now = l) (hr : l.length = r) (hm : ms.length = m) (hv : vals.length = v) (hm1 : m ≤ 1000) (hn1 : n ≤ 1000) (w : World) (hs : Sl w M m d (prs ms)) (hsv : Sl w V v q (nums vals)) :
    Calls Try.prog 12 #[.agg #[.slice A n c, .slice M m d, .int .i64 st, .int .i64 sp, .int .i64 cs, .int .u64 sa], .int .i64 kind, .slice V v q, .int .u64 now] w fun e w' => ∃ A' c', e = .returned (.slice A' r c') ∧ Sl w' A' r c' (fl o5 l) ∧ Below w.heap.size w w' := by
  unfold couts at hl
  by_cases h4 : kind = 4
  · subst h4
    rw [if_pos rfl] at hl
    subst hl
    obtain rfl : m = r := by rw [← hm, ← hr, List.length_map]
    exact outs_failed A M V n c m d q v st sp cs sa now ms hm hm1 w hs
  · rw [if_neg h4] at hl
    by_cases h13 : kind = 1 ∨ kind = 3
    · rw [if_pos h13] at hl
      have none_ : ∀ w, l = [] → Calls Try.prog 12 #[.agg #[.slice A n c, .slice M m d, .int .i64 st, .int .i64 sp, .int .i64 cs, .int .u64 sa], .int .i64 kind, .slice V v q, .int .u64 now] w (fun e w' => e = .returned (.slice none 0 0) ∧ Below w.heap.size w w') → Calls Try.prog 12 #[.agg #[.slice A n c, .slice M m d, .int .i64 st, .int .i64 sp, .int .i64 cs, .int .u64 sa], .int .i64 kind, .slice V v q, .int .u64 now] w fun e w' => ∃ A' c', e = .returned (.slice A' r c') ∧ Sl w' A' r c' (fl o5 l) ∧ Below w.heap.size w w' := by
        intro w hl0 hc
        subst hl0
        refine hc.mono ?_
        rintro e w' ⟨rfl, hb⟩
        simp at hr
        subst hr
        exact ⟨none, 0, rfl, Sl.zero _, hb⟩
      by_cases hvn : vals.length = n
      · rw [if_pos hvn] at hl
        cases hp : psplit vals ms with
        | none =>
          rw [hp] at hl
          refine none_ w hl.symm ?_
          rcases h13 with rfl | rfl
          · exact outs_untold1 A M V n c m d q v st sp cs sa now ms vals hm hv hm1 hn1 (.inr hp) w hs hsv
          · exact outs_untold3 A M V n c m d q v st sp cs sa now ms vals hm hv hm1 hn1 (.inr hp) w hs hsv
        | some ps =>
          rw [hp] at hl
          simp only at hl
          subst hl
          obtain rfl : m = r := by rw [← hm, ← hr, List.length_map, psplit_len hp]
          rcases h13 with rfl | rfl
          · exact outs_told1 A M V n c m d q v st sp cs sa now ms ps vals hm hv hm1 hn1 (hv.symm.trans hvn) hp w hs hsv
          · exact outs_told3 A M V n c m d q v st sp cs sa now ms ps vals hm hv hm1 hn1 (hv.symm.trans hvn) hp w hs hsv
      · rw [if_neg hvn] at hl
        refine none_ w hl.symm ?_
        rcases h13 with rfl | rfl
        · exact outs_untold1 A M V n c m d q v st sp cs sa now ms vals hm hv hm1 hn1 (.inl (fun h => hvn (hv.trans h))) w hs hsv
        · exact outs_untold3 A M V n c m d q v st sp cs sa now ms vals hm hv hm1 hn1 (.inl (fun h => hvn (hv.trans h))) w hs hsv
    · rw [if_neg h13] at hl
      subst hl
      simp at hr
      subst hr
      refine (outs_none A M V n c m d q v st sp cs sa kind now ⟨fun h => h13 (.inl h), fun h => h13 (.inr h), h4⟩ w).mono ?_
      rintro e w' ⟨rfl, hb⟩
      exact ⟨none, 0, rfl, Sl.zero _, hb⟩

set_option maxHeartbeats 2000000 in
theorem awake_any (w : World) : Calls Try.prog 9 #[] w fun e w' => e = .returned (.bool true) ∧ Below w.heap.size w w' := by
  go_enter Try.func9, Try.ntmps9
  go_wp2_with fail
  refine (one_any 7 3 _).mono ?_
  rintro e w1 ⟨A, c, M, d, rfl, ha, hs, _, _, hd⟩
  have HA := Lib.hid ha
  have HS := Lib.hid hs
  have U1 := Lib.hid (Upd.of_below hd (fun _ => False))
  clear ha hs hd
  go_wp2_with fail
  refine (begin_any A M 1 c 1 d 5 _).mono ?_
  rintro e w2 ⟨rfl, hd⟩
  have S2 := Lib.hid (HS.out.upd0 (Upd.of_below hd (fun _ => False)))
  have U2 := Lib.hid (U1.out.trans (Upd.of_below hd (fun _ => False)) (fun _ h => h.elim))
  clear hd HS U1 HA
  go_wp2_with fail
  refine (run_any A M 1 c 1 d 1 0 0 5 (st2 := 2) (sp2 := 0) (cs2 := 0) (sa2 := 5) (ok := true) (by rfl) _).mono ?_
  rintro e w3 ⟨rfl, hd⟩
  have B3 := Lib.hid ((Blk.new w2 #[.slice A 1 c, .slice M 1 d, .int .i64 1, .int .i64 0, .int .i64 0, .int .u64 5] 38).upd (Upd.of_below hd (fun _ => False)) (fun h => h))
  have S3 := Lib.hid ((S2.out.alloc (.cells #[.slice A 1 c, .slice M 1 d, .int .i64 1, .int .i64 0, .int .i64 0, .int .u64 5] 38)).upd0 (Upd.of_below hd (fun _ => False)))
  have U3 := Lib.hid ((U2.out.alloc (.cells #[.slice A 1 c, .slice M 1 d, .int .i64 1, .int .i64 0, .int .i64 0, .int .u64 5] 38)).trans (Upd.of_below hd (fun _ => False)) (fun _ h => h.elim))
  have hsm3 : Hid (∀ b o, M = some ⟨b, o, none⟩ → b ≠ w2.heap.size) := Lib.hid (fun b o e => Nat.ne_of_lt (S2.out.lt (by simp [prs]) e))
  have hsz2 : Hid (w.heap.size ≤ w2.heap.size) := Lib.hid U2.out.size
  clear hd S2 U2
  have c3 := B3.out.cell
  have f3 := B3.out.frz
  have l3 := B3.out.lt
  go_wp2_with fail
  refine Calls.gen (fun W => Blk W w2.heap.size 38 #[.slice A 1 c, .slice M 1 d, .int .i64 2, .int .i64 0, .int .i64 0, .int .u64 5] ∧ Sl W M 1 d (prs [(7, 0)]) ∧ Upd (fun _ => False) w W) ⟨?_, ?_, ?_⟩ ?_
  · exact ((((((B3.out.set 0 _).set 1 _).set 2 _).set 3 _).set 4 _).set 5 _)
  · exact S3.out.upd (Upd.put (Upd.put (Upd.put (Upd.put (Upd.put (Upd.put (Upd.refl (At w2.heap.size) _) 0 _) 1 _) 2 _) 3 _) 4 _) 5 _) (fun b o e h => hsm3.out b o e h)
  · exact U3.out.trans (S' := At w2.heap.size) (Upd.put (Upd.put (Upd.put (Upd.put (Upd.put (Upd.put (Upd.refl (At w2.heap.size) _) 0 _) 1 _) 2 _) 3 _) 4 _) 5 _) (fun i hi => .inr (by rw [show i = w2.heap.size from hi]; exact hsz2.out))
  rintro w4 ⟨b4, s4, u4⟩
  have B4 := Lib.hid b4
  have S4 := Lib.hid s4
  have U4 := Lib.hid u4
  clear b4 s4 u4 c3 f3 l3 B3 S3 U3
  refine (fail_any A M 1 c 1 d 2 0 0 5 1 1 (st2 := 3) (sp2 := 1) (cs2 := 1) (sa2 := 5) (ok := true) (by simp [cfail, wrap64]) _).mono ?_
  rintro e w5 ⟨rfl, hd⟩
  have B5 := Lib.hid (B4.out.upd (Upd.of_below hd (fun _ => False)) (fun h => h))
  have S5 := Lib.hid (S4.out.upd0 (Upd.of_below hd (fun _ => False)))
  have U5 := Lib.hid (U4.out.trans (Upd.of_below hd (fun _ => False)) (fun _ h => h.elim))
  clear hd B4 S4 U4
  have c3 := B5.out.cell
  have f3 := B5.out.frz
  have l3 := B5.out.lt
  go_wp2_with fail
  refine Calls.gen (fun W => Blk W w2.heap.size 38 #[.slice A 1 c, .slice M 1 d, .int .i64 3, .int .i64 1, .int .i64 1, .int .u64 5] ∧ Sl W M 1 d (prs [(7, 0)]) ∧ Upd (fun _ => False) w W) ⟨?_, ?_, ?_⟩ ?_
  · exact ((((((B5.out.set 0 _).set 1 _).set 2 _).set 3 _).set 4 _).set 5 _)
  · exact S5.out.upd (Upd.put (Upd.put (Upd.put (Upd.put (Upd.put (Upd.put (Upd.refl (At w2.heap.size) _) 0 _) 1 _) 2 _) 3 _) 4 _) 5 _) (fun b o e h => hsm3.out b o e h)
  · exact U5.out.trans (S' := At w2.heap.size) (Upd.put (Upd.put (Upd.put (Upd.put (Upd.put (Upd.put (Upd.refl (At w2.heap.size) _) 0 _) 1 _) 2 _) 3 _) 4 _) 5 _) (fun i hi => .inr (by rw [show i = w2.heap.size from hi]; exact hsz2.out))
  rintro w6 ⟨b6, s6, u6⟩
  have B6 := Lib.hid b6
  have S6 := Lib.hid s6
  have U6 := Lib.hid u6
  clear b6 s6 u6 c3 f3 l3 B5 S5 U5
  refine (fail_any A M 1 c 1 d 3 1 1 5 2 1 (st2 := 4) (sp2 := 1) (cs2 := 1) (sa2 := 5) (ok := false) (by rfl) _).mono ?_
  rintro e w7 ⟨rfl, hd⟩
  have B7 := Lib.hid ((B6.out.upd (Upd.of_below hd (fun _ => False)) (fun h => h)).alloc (.cells #[.slice A 1 c, .slice M 1 d, .int .i64 4, .int .i64 1, .int .i64 1, .int .u64 5] 38))
  have D7 := Lib.hid (Blk.new w7 #[.slice A 1 c, .slice M 1 d, .int .i64 4, .int .i64 1, .int .i64 1, .int .u64 5] 38)
  have S7 := Lib.hid ((S6.out.upd0 (Upd.of_below hd (fun _ => False))).alloc (.cells #[.slice A 1 c, .slice M 1 d, .int .i64 4, .int .i64 1, .int .i64 1, .int .u64 5] 38))
  have U7 := Lib.hid ((U6.out.trans (Upd.of_below hd (fun _ => False)) (fun _ h => h.elim)).alloc (.cells #[.slice A 1 c, .slice M 1 d, .int .i64 4, .int .i64 1, .int .i64 1, .int .u64 5] 38))
  clear hd B6 S6 U6
  go_wp2_with fail
  refine (outs_to (l := [(7, 4, 1, 0, 9)]) (r := 1) (ms := [(7, 0)]) (vals := []) (by rfl) rfl rfl rfl (by decide) (by decide) _ S7.out (Sl.zero _)).mono ?_
  rintro e w8 ⟨A8, c8, rfl, hs8, hd⟩
  have u8 := Upd.of_below hd (fun _ => False)
  have B8 := Lib.hid (B7.out.upd u8 (fun h => h))
  have D8 := Lib.hid (D7.out.upd u8 (fun h => h))
  have U8 := Lib.hid (U7.out.trans u8 (fun _ h => h.elim))
  obtain ⟨b, of, rfl, hb, hc⟩ := hs8.row o5_len (by decide) (i := 0) rfl
  have d0 := hc 0 _ rfl
  have d1 := hc 1 _ rfl
  have d2 := hc 2 _ rfl
  have d3 := hc 3 _ rfl
  have d4 := hc 4 _ rfl
  simp only [Nat.zero_mul, Nat.add_zero, Nat.zero_add] at d0 d1 d2 d3 d4
  have bc := B8.out.cell
  have dc := D8.out.cell
  have x0 := bc 0
  have x1 := bc 1
  have x2 := bc 2
  have x3 := bc 3
  have x4 := bc 4
  have x5 := bc 5
  have y0 := dc 0
  have y1 := dc 1
  have y2 := dc 2
  have y3 := dc 3
  have y4 := dc 4
  have y5 := dc 5
  have l8 := B8.out.lt
  have m8 := D8.out.lt
  clear hd u8 hs8 hc bc dc
  go_wp2
  go_ret
  exact ⟨rfl, U8.out.below0⟩
end Go.Proofs.Ytilpcgipjfegcaa
