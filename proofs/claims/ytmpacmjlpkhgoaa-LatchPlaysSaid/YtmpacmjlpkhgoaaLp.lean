/- LatchPlays -/
import Derived.Test.YtmpacmjlpkhgoaaLst
import Derived.Deep.RegionHeld3
namespace Go.Proofs.Ytmpacmjlpkhgoaa
open Go.RowKit
open Go.Maps (Keyed IsMap Tidy)
set_option linter.unusedVariables false
set_option linter.unusedSimpArgs false

theorem rmay_to {id kd cs vl at_ : Int} {b : Bool} (hb : omay (id, kd, cs, vl, at_) = b) (w : World) : Calls Try.prog 16 #[.agg #[.int .i64 id, .int .i64 kd, .int .i64 cs, .int .i64 vl, .int .u64 at_]] w fun e w' => e = .returned (.bool b) ∧ Below w.heap.size w w' := by
  have := rmay_any id kd cs vl at_ w
  rwa [hb] at this
theorem rof_to {A : Option Addr} {n c : Nat} {L : List O5} {id a b d e f : Int} {is : Bool} (hn : L.length = n) (hm : n ≤ 1000) (hg : lget L id = if is then some (a, b, d, e, f) else none) (h0 : is = false → a = 0 ∧ b = 0 ∧ d = 0 ∧ e = 0 ∧ f = 0) (w : World) (ha : Sl w A n c (fl o5 L)) :
    Calls Try.prog 14 #[.slice A n c, .int .i64 id] w fun e' w' => e' = .returned (.tuple #[.agg #[.int .i64 a, .int .i64 b, .int .i64 d, .int .i64 e, .int .u64 f], .bool is]) ∧ Below w.heap.size w w' := by
  have := rof_any A n c L hn hm id w ha
  cases is with
  | true => rw [hg] at this; exact this
  | false =>
    obtain ⟨rfl, rfl, rfl, rfl, rfl⟩ := h0 rfl
    rw [hg] at this
    exact this
theorem lget_shape (L : List O5) (id : Int) : ∃ a b c d e is, (lget L id = if is then some (a, b, c, d, e) else none) ∧ (is = false → a = 0 ∧ b = 0 ∧ c = 0 ∧ d = 0 ∧ e = 0) := by
  cases h : lget L id with
  | none => exact ⟨0, 0, 0, 0, 0, false, rfl, fun _ => ⟨rfl, rfl, rfl, rfl, rfl⟩⟩
  | some o =>
    obtain ⟨a, b, c, d, e⟩ := o
    exact ⟨a, b, c, d, e, true, rfl, fun h => by cases h⟩

set_option maxHeartbeats 4000000 in
theorem remit_any (A : Option Addr) (n c : Nat) (L : List O5) (hn : L.length = n) (hm : n ≤ 999) (id kd cs vl at_ : Int) (L' : List O5) (ok : Bool) (he : lemit L (id, kd, cs, vl, at_) = (L', ok)) (w : World) (ha : Sl w A n c (fl o5 L)) :
    Calls Try.prog 12 #[.slice A n c, .agg #[.int .i64 id, .int .i64 kd, .int .i64 cs, .int .i64 vl, .int .u64 at_]] w fun e w' => ∃ A' c', e = .returned (.tuple #[.slice A' L'.length c', .bool ok]) ∧ Sl w' A' L'.length c' (fl o5 L') ∧ ((A' = A ∧ L' = L) ∨ ∀ b o, A' = some ⟨b, o, none⟩ → w.heap.size ≤ b) ∧ Below w.heap.size w w' := by
  obtain ⟨i0, hj, hz0, hz1, hz2⟩ := info_parts infoO
  obtain ⟨a1, b1, c1, d1, e1, is, hg, h0⟩ := lget_shape L id
  obtain ⟨mo, hmo⟩ : ∃ b, omay (id, kd, cs, vl, at_) = b := ⟨_, rfl⟩
  have HMO := Lib.hid hmo
  have HA := Lib.hid ha
  have HN := Lib.hid hn
  have HEM := Lib.hid he
  have HG := Lib.hid hg
  have H0 : Hid (is = false → a1 = 0 ∧ b1 = 0 ∧ c1 = 0 ∧ d1 = 0 ∧ e1 = 0) := Lib.hid h0
  have hlx : Hid (lix L id = none ↔ is = false) := Lib.hid (by rw [lix_none, hg]; cases is <;> simp)
  clear ha hn he hg h0 hmo
  go_enter Try.func12, Try.ntmps12
  go_wp2_with fail
  refine (rof_to HN.out (by omega) HG.out H0.out _ (HA.out.alloc _)).mono ?_
  rintro e w1 ⟨rfl, hd⟩
  have U1 := Lib.hid (((Upd.refl (fun _ => False) w).alloc _).trans (Upd.of_below hd (fun _ => False)) (fun _ h => h.elim))
  have B1 := Lib.hid ((Blk.new w #[.int .i64 id, .int .i64 kd, .int .i64 cs, .int .i64 vl, .int .u64 at_] 29).upd (Upd.of_below hd (fun _ => False)) (fun h => h))
  clear hd
  have bc := B1.out.cell
  have x0 := bc 0
  have x1 := bc 1
  have x2 := bc 2
  have x3 := bc 3
  have x4 := bc 4
  have hl1 := B1.out.lt
  cases is with
  | true =>
    have HE : Hid (L' = L ∧ ok = false) := Lib.hid (by have h := HEM.out; unfold lemit at h; rw [if_neg (fun h2 => by have := hlx.out.1 h2.2; cases this)] at h; simp only [Prod.mk.injEq] at h; exact ⟨h.1.symm, h.2.symm⟩)
    clear hlx H0 HEM HG bc
    obtain ⟨rfl, rfl⟩ := HE.out
    go_wp2
    go_ret2
    exact ⟨A, c, by rw [HN.out]; rfl, by rw [HN.out]; exact (HA.out.upd0 U1.out).alloc _, .inl (by simp), (U1.out.alloc _).below0⟩
  | false =>
    cases mo with
    | false =>
      have HE : Hid (L' = L ∧ ok = false) := Lib.hid (by have h := HEM.out; unfold lemit at h; rw [if_neg (fun h2 => by rw [HMO.out] at h2; cases h2.1)] at h; simp only [Prod.mk.injEq] at h; exact ⟨h.1.symm, h.2.symm⟩)
      clear hlx H0 HEM HG bc
      obtain ⟨rfl, rfl⟩ := HE.out
      go_wp2_with (go_at_call 16; refine (rmay_to HMO.out _).mono ?_; rintro e w2 ⟨rfl, hd⟩; have U2 := Lib.hid (Upd.of_below hd (fun _ => False)); clear hd x0 x1 x2 x3 x4)
      go_ret2
      exact ⟨A, c, by rw [HN.out]; rfl, by rw [HN.out]; exact ((HA.out.upd0 U1.out).alloc _).upd0 U2.out, .inl (by simp), ((U1.out.alloc _).trans U2.out (fun _ h => h.elim)).below0⟩
    | true =>
      have HE : Hid (L' = L ++ [(id, kd, cs, vl, at_)] ∧ ok = true) := Lib.hid (by have h := HEM.out; unfold lemit at h; rw [if_pos ⟨HMO.out, hlx.out.2 rfl⟩] at h; simp only [Prod.mk.injEq] at h; exact ⟨h.1.symm, h.2.symm⟩)
      clear hlx H0 HEM HG bc
      obtain ⟨rfl, rfl⟩ := HE.out
      go_wp2_with (first | (go_at_call 16; refine (rmay_to HMO.out _).mono ?_; rintro e w2 ⟨rfl, hd⟩; have U2 := Lib.hid (Upd.of_below hd (fun _ => False)); have V2 : Hid (Upd (fun _ => False) w w2) := Lib.hid ((U1.out.alloc _).trans U2.out (fun _ h => h.elim)); have B2 : Hid (Blk w2 w.heap.size 29 #[.int .i64 id, .int .i64 kd, .int .i64 cs, .int .i64 vl, .int .u64 at_]) := Lib.hid ((B1.out.alloc _).upd U2.out (fun h => h)); clear hd x0 x1 x2 x3 x4) | (at_builtin; refine wpList_plain rfl (fun K' hK' => ?_); with_reducible refine wp_append_fresh (.tmp 23) (.tmp 24) _ rfl w2.heap.size 29 i0 (.agg #[.int .i64 0, .int .i64 0, .int .i64 0, .int .i64 0, .int .u64 0]) 5 40 Try.underlying22 hj hz0 hz1 hz2 rfl (by decide) w2.heap.size rfl (own_empty (Blk.new _ _ _) (Nat.le_refl _)) A n c (fl o5 L) rfl ?c1 ?c2 ?c3 (o5_one L) ?c4 ?c5 ?c6 ?_; (case c1 => exact HA.out.nil); (case c2 => rw [fl_len o5_len, HN.out]); (case c3 => exact ((HA.out.upd0 V2.out).alloc _).holds); (case c4 => unfold maxLen; omega); (case c5 => omega); (case c6 => simp); intro v3 w3 ho hu; refine hK' _ _ ?_; have O3 := Lib.hid ho; have V3 : Hid (Upd (fun _ => False) w2 w3) := Lib.hid (((Upd.refl (fun _ => False) w2).alloc _).trans hu (fun _ h => h.elim)); have B3 := Lib.hid (B2.out.upd V3.out (fun h => h)); have bc3 := B3.out.cell; have y0 := bc3 0; have y1 := bc3 1; have y2 := bc3 2; have y3 := bc3 3; have y4 := bc3 4; have hl3 := B3.out.lt; clear ho hu bc3) | (at_builtin; refine wpList_append_lies _ rfl (.tmp 26) (.tmp 28) 22 rfl w2.heap.size 29 i0 (.agg #[.int .i64 0, .int .i64 0, .int .i64 0, .int .i64 0, .int .u64 0]) 5 40 Try.underlying22 hj hz0 hz1 hz2 rfl (by decide) v3 n (fl o5 L) rfl (own_alloc O3.out _) ⟨w3.heap.size, 0, none⟩ 1 1 [.int .i64 id, .int .i64 kd, .int .i64 cs, .int .i64 vl, .int .u64 at_] rfl rfl (Blk.new w3 #[.int .i64 id, .int .i64 kd, .int .i64 cs, .int .i64 vl, .int .u64 at_] 29).news ?d5 (by omega) ?d7 ?d8 ?d9 (w3.heap.size + 1) (by simp) ?_; (case d5 => intro u hu; simp at hu; rcases hu with rfl | rfl | rfl | rfl | rfl <;> rfl); (case d7 => unfold maxLen; omega); (case d8 => omega); (case d9 => have := V3.out.size; simp; omega); intro gg cp w4 hown hgrow hat hlt; have U4 := Lib.hid (Upd.of_grown hgrow); have O4 : Hid (w4.ownsRow w2.heap.size 29 5 (.slice (some ⟨gg, 0, none⟩) (n + 1) cp) (n + 1) (fl o5 (L ++ [(id, kd, cs, vl, at_)]))) := Lib.hid (by rw [fl_snoc]; exact hown); clear hown hgrow hat hlt y0 y1 y2 y3 y4))
      go_ret2
      obtain ⟨A4, c4, e, hs4, hb4⟩ := Sl.of_own O4.out
      injection e with e1 e2 e3
      subst e1
      subst e3
      have hlen : (L ++ [(id, kd, cs, vl, at_)]).length = n + 1 := by simp [HN.out]
      have hw2 : w.heap.size ≤ w2.heap.size := V2.out.size
      exact ⟨some ⟨gg, 0, none⟩, cp, by rw [hlen]; rfl, by rw [hlen]; exact hs4, .inr (fun b o e => Nat.le_trans hw2 (hb4 b o e)), (((V2.out.trans V3.out (fun _ h => h.elim)).alloc _).trans U4.out (fun k hk => .inr (Nat.le_trans hw2 (own_ge O3.out hk)))).below0⟩

theorem remit_to {A : Option Addr} {n c n' : Nat} {L L' : List O5} {ok : Bool} (hn : L.length = n) (hm : n ≤ 999) (id kd cs vl at_ : Int) (he : lemit L (id, kd, cs, vl, at_) = (L', ok)) (hn' : L'.length = n') (w : World) (ha : Sl w A n c (fl o5 L)) :
    Calls Try.prog 12 #[.slice A n c, .agg #[.int .i64 id, .int .i64 kd, .int .i64 cs, .int .i64 vl, .int .u64 at_]] w fun e w' => ∃ A' c', e = .returned (.tuple #[.slice A' n' c', .bool ok]) ∧ Sl w' A' n' c' (fl o5 L') ∧ ((A' = A ∧ L' = L) ∨ ∀ b o, A' = some ⟨b, o, none⟩ → w.heap.size ≤ b) ∧ Below w.heap.size w w' := by
  subst hn'
  exact remit_any A n c L hn hm id kd cs vl at_ L' ok he w ha

set_option maxRecDepth 100000 in
set_option maxHeartbeats 8000000 in
theorem lplays_any (A : Option Addr) (len cap : Nat) (l : List O5) (hl : l.length = len) (hm : len ≤ 9223372036854775807) (hwf : Wf l) (id : Int) (hid : (Lit.int .i64 id).wf = true) (num : Int) (w : World) (hs : Sl w A len cap (fl o5 l)) :
    Calls Try.prog 3 #[.slice A len cap, .int .i64 id, .int .i64 num] w fun e w' => e = .returned (.bool true) ∧ Below w.heap.size w w' := by
  have HS := Lib.hid hs
  have HL := Lib.hid hl
  have HW := Lib.hid hwf
  have HID := Lib.hid hid
  clear hs hl hwf hid
  go_enter Try.func3, Try.ntmps3
  go_wp2_with fail
  refine (awake_any _).mono ?_
  rintro e w0 ⟨rfl, hd⟩
  have U0 := Lib.hid (Upd.of_below hd (fun _ => False))
  clear hd
  go_wp2_with fail
  refine (new_any _).mono ?_
  rintro e w1 ⟨g, F, rfl, hg, hd⟩
  have G1 := Lib.hid hg
  have U1 := Lib.hid (U0.out.trans (Upd.of_below hd (fun _ => False)) (fun _ h => h.elim))
  clear hg hd
  have U00 : Hid (w.heap.size ≤ w0.heap.size) := Lib.hid U0.out.size
  go_wp2_with fail
  go_loopw [9, 10] (fun yv i wr => ∃ (k : Nat) (F : Nat → Prop) (Y : Option Addr) (n c : Nat) (L : List O5), k ≤ len ∧ k ≤ 100 ∧ n ≤ 100 ∧ i = .int .i64 k ∧ yv = .slice Y n c ∧ Hid (lfold [] (l.take k) = L) ∧ Hid (L.length = n) ∧ Hid (Log wr g w0.heap.size F L) ∧ Hid (Sl wr Y n c (fl o5 L)) ∧ Hid (0 < n → Off F Y) ∧ Hid (Upd (fun _ => False) w wr)) (fun _ i _ => 100 - (intOf i).toNat)
  case atStart => exact ⟨0, F, none, 0, 0, [], Nat.zero_le _, Nat.zero_le _, Nat.zero_le _, rfl, rfl, Lib.hid rfl, Lib.hid rfl, G1, Lib.hid (Sl.zero _), Lib.hid (fun h => absurd h (Nat.lt_irrefl _)), U1⟩
  case round =>
    obtain ⟨k, F, Y, n, c, L, hk, hk2, hn100, rfl, rfl, HLF, HN, hg, hsl, hof, hu⟩ := hrel
    by_cases h1 : k < len ∧ k < 100
    · obtain ⟨h1, h2⟩ := h1
      obtain ⟨o, ho⟩ : ∃ o, l[k]? = some o := ⟨l[k]'(by have := HL.out; omega), List.getElem?_eq_getElem _⟩
      obtain ⟨b, of, e, hb, hc⟩ := (HS.out.upd0 hu.out).row o5_len (by decide) ho
      obtain ⟨oi, ok, oc, ov, oa⟩ := o
      have d0 := hc 0 _ rfl
      have d1 := hc 1 _ rfl
      have d2 := hc 2 _ rfl
      have d3 := hc 3 _ rfl
      have d4 := hc 4 _ rfl
      simp only [Nat.add_zero, ← Nat.add_assoc] at d0 d1 d2 d3 d4
      have i0 : (0 : Int) ≤ (k : Int) := Int.natCast_nonneg _
      have i1 : (k : Int) < (len : Int) := by omega
      have HO := Lib.hid ho
      obtain ⟨L', is, hem⟩ : ∃ L' is, lemit L (oi, ok, oc, ov, oa) = (L', is) := ⟨_, _, rfl⟩
      have HEM := Lib.hid hem
      have HLF2 : Hid (lfold [] (l.take (k + 1)) = L') := Lib.hid (by rw [take_snoc ho, lfold_snoc, HLF.out, hem])
      have HWI : Hid ((Lit.int .i64 oi).wf = true) := Lib.hid (HW.out _ (List.mem_of_getElem? ho))
      have hn999 : n ≤ 999 := by omega
      obtain ⟨n', hn'⟩ : ∃ n', L'.length = n' := ⟨_, rfl⟩
      have HN' := Lib.hid hn'
      have hn1 : n' ≤ 100 := by
        have h := fold_len (l.take (k + 1)) []
        rw [HLF2.out] at h
        simp at h
        omega
      obtain ⟨sa, sb, sc, sd, se, ss, hsg, hs0⟩ := lget_shape L' id
      have HSG := Lib.hid hsg
      have HS0 := Lib.hid hs0
      obtain ⟨mb, hmb⟩ : ∃ b, omay (oi, ok, oc, ov, oa) = b := ⟨_, rfl⟩
      have HMB := Lib.hid hmb
      subst e
      clear ho hc hem hn' hsg hs0 hmb
      go_wp2_with fail
      refine (emit_to _ _ _ _ _ HEM.out HWI.out (by rw [HN.out]; omega) _ hg.out).mono ?_
      rintro e w2 ⟨F2, rfl, hl2, hu2, hf2⟩
      have G2 := Lib.hid hl2
      have V2 := Lib.hid hu2
      have S2 : Hid (Sl w2 Y n c (fl o5 L)) := Lib.hid (by
        rcases Nat.eq_zero_or_pos n with hz | hz
        · have hL0 : L = [] := List.eq_nil_of_length_eq_zero (by rw [HN.out]; exact hz)
          have := hsl.out
          rw [hL0] at this ⊢
          exact ⟨this.le, this.cm, this.nil, .inl rfl⟩
        · exact hsl.out.upd V2.out (hof.out hz))
      have O2 : Hid (0 < n → Off F2 Y) := Lib.hid (fun hz => (hof.out hz).grow hsl.out (by rw [fl_len o5_len, HN.out]; omega) hf2)
      have U2 : Hid (Upd (fun _ => False) w w2) := Lib.hid (hu.out.trans V2.out (fun k hk => .inr (Nat.le_trans U00.out (hg.out.ge k hk).1)))
      have W2 : Hid (Upd (fun _ => False) w wr) := Lib.hid hu.out
      obtain ⟨b', of', e', hb', hc'⟩ := (HS.out.upd0 U2.out).row o5_len (by decide) (show l[k]? = some (oi, ok, oc, ov, oa) from HO.out)
      injection e' with e'
      injection e' with e1 e2 e3
      subst e1
      subst e2
      have f0 := hc' 0 _ rfl
      have f1 := hc' 1 _ rfl
      have f2 := hc' 2 _ rfl
      have f3 := hc' 3 _ rfl
      have f4 := hc' 4 _ rfl
      simp only [Nat.add_zero, ← Nat.add_assoc] at f0 f1 f2 f3 f4
      clear hl2 hu2 hf2 d0 d1 d2 d3 d4 hc' e3
      go_wp2_with fail
      refine (remit_to HN.out hn999 _ _ _ _ _ HEM.out HN'.out _ S2.out).mono ?_
      rintro e w3 ⟨Y', c', rfl, hs3, hy3, hd3⟩
      have V3 := Lib.hid (Upd.of_below hd3 (fun _ => False))
      have S3 := Lib.hid hs3
      have G3 := Lib.hid (G2.out.upd0 V3.out)
      have U3 := Lib.hid (U2.out.trans V3.out (fun _ h => h.elim))
      have O3 : Hid (0 < n' → Off F2 Y') := Lib.hid (fun hz => by
        rcases hy3 with ⟨rfl, hLL⟩ | hy3
        · exact O2.out (by rw [← HN.out, ← hLL, HN'.out]; exact hz)
        · intro b o e hF
          have := hy3 b o e
          have := (G2.out.ge b hF).2
          omega)
      have x0 := (V3.out.cellq (p := ⟨b, of + k * 5, none⟩) hb' (fun h => h)).trans f0
      have x1 := (V3.out.cellq (p := ⟨b, of + k * 5 + 1, none⟩) hb' (fun h => h)).trans f1
      have x2 := (V3.out.cellq (p := ⟨b, of + k * 5 + 2, none⟩) hb' (fun h => h)).trans f2
      have x3 := (V3.out.cellq (p := ⟨b, of + k * 5 + 3, none⟩) hb' (fun h => h)).trans f3
      have x4 := (V3.out.cellq (p := ⟨b, of + k * 5 + 4, none⟩) hb' (fun h => h)).trans f4
      have X3 := Lib.hid (And.intro x0 (And.intro x1 (And.intro x2 (And.intro x3 x4))))
      have hb3 : Hid (b < w3.heap.size) := Lib.hid (Nat.lt_of_lt_of_le hb' V3.out.size)
      clear hs3 hy3 hd3 f0 f1 f2 f3 f4 x0 x1 x2 x3 x4
      go_wp2_with fail
      refine (of_to HSG.out HS0.out HID.out (by rw [HN'.out]; omega) _ G3.out).mono ?_
      rintro e w4 ⟨rfl, hd4⟩
      have V4 := Lib.hid (Upd.of_below hd4 (fun _ => False))
      clear hd4
      go_wp2_with fail
      refine (rof_to HN'.out (by omega) HSG.out HS0.out _ ((S3.out.upd0 V4.out).alloc _)).mono ?_
      rintro e w5 ⟨rfl, hd5⟩
      have V5 := Lib.hid (Upd.of_below hd5 (fun _ => False))
      have B5 := Lib.hid ((Blk.new w4 #[.int .i64 sa, .int .i64 sb, .int .i64 sc, .int .i64 sd, .int .u64 se] 29).upd V5.out (fun h => h))
      have V35 : Hid (Upd (fun _ => False) w3 w5) := Lib.hid ((V4.out.alloc _).trans V5.out (fun _ h => h.elim))
      clear hd5
      go_wp2_with fail
      refine Code.gen (fun W => Upd (fun _ => False) w3 W ∧ Blk W w4.heap.size 29 #[.int .i64 sa, .int .i64 sb, .int .i64 sc, .int .i64 sd, .int .u64 se] ∧ Blk W w5.heap.size 29 #[.int .i64 sa, .int .i64 sb, .int .i64 sc, .int .i64 sd, .int .u64 se]) ⟨V35.out.alloc _, B5.out.alloc _, Blk.new _ _ _⟩ ?_
      rintro w6 ⟨v6, b6, c6⟩
      have V6 := Lib.hid v6
      have B6 := Lib.hid b6
      have C6 := Lib.hid c6
      have U6 : Hid (Upd (fun _ => False) w w6) := Lib.hid (U3.out.trans v6 (fun _ h => h.elim))
      have G6 := Lib.hid (G3.out.upd0 v6)
      have S6 := Lib.hid (S3.out.upd0 v6)
      have x0 := (v6.cellq (p := ⟨b, of + k * 5, none⟩) hb3.out (fun h => h)).trans X3.out.1
      have x1 := (v6.cellq (p := ⟨b, of + k * 5 + 1, none⟩) hb3.out (fun h => h)).trans X3.out.2.1
      have x2 := (v6.cellq (p := ⟨b, of + k * 5 + 2, none⟩) hb3.out (fun h => h)).trans X3.out.2.2.1
      have x3 := (v6.cellq (p := ⟨b, of + k * 5 + 3, none⟩) hb3.out (fun h => h)).trans X3.out.2.2.2.1
      have x4 := (v6.cellq (p := ⟨b, of + k * 5 + 4, none⟩) hb3.out (fun h => h)).trans X3.out.2.2.2.2
      have hb6 : b < w6.heap.size := Nat.lt_of_lt_of_le hb3.out v6.size
      have bc := b6.cell
      have cc := c6.cell
      have y0 := bc 0
      have y1 := bc 1
      have y2 := bc 2
      have y3 := bc 3
      have y4 := bc 4
      have z0 := cc 0
      have z1 := cc 1
      have z2 := cc 2
      have z3 := cc 3
      have z4 := cc 4
      have hly := b6.lt
      have hlz := c6.lt
      clear v6 b6 c6 bc cc
      go_region_held3 (fun w' => w'.cell? ⟨b, of + k * 5, none⟩ = some (.int .i64 oi) ∧ w'.cell? ⟨b, of + k * 5 + 1, none⟩ = some (.int .i64 ok) ∧ w'.cell? ⟨b, of + k * 5 + 2, none⟩ = some (.int .i64 oc) ∧ w'.cell? ⟨b, of + k * 5 + 3, none⟩ = some (.int .i64 ov) ∧ w'.cell? ⟨b, of + k * 5 + 4, none⟩ = some (.int .u64 oa) ∧ w'.cell? ⟨w4.heap.size, 0, none⟩ = some (.int .i64 sa) ∧ w'.cell? ⟨w4.heap.size, 1, none⟩ = some (.int .i64 sb) ∧ w'.cell? ⟨w4.heap.size, 2, none⟩ = some (.int .i64 sc) ∧ w'.cell? ⟨w4.heap.size, 3, none⟩ = some (.int .i64 sd) ∧ w'.cell? ⟨w4.heap.size, 4, none⟩ = some (.int .u64 se) ∧ w'.cell? ⟨w5.heap.size, 0, none⟩ = some (.int .i64 sa) ∧ w'.cell? ⟨w5.heap.size, 1, none⟩ = some (.int .i64 sb) ∧ w'.cell? ⟨w5.heap.size, 2, none⟩ = some (.int .i64 sc) ∧ w'.cell? ⟨w5.heap.size, 3, none⟩ = some (.int .i64 sd) ∧ w'.cell? ⟨w5.heap.size, 4, none⟩ = some (.int .u64 se)) (go_keep) (first | (go_at_call 17; refine (rsame_to HN'.out (by omega) _ S9.out (S6.out.upd0 V9.out)).mono ?_; rintro e w10 ⟨rfl, hd⟩; have V10 := Lib.hid (V9.out.trans (Upd.of_below hd (fun _ => False)) (fun _ h => h.elim)); clear hd; have x010 := (V10.out.cellq (p := ⟨b, of + k * 5, none⟩) hb6 (fun h => h)).trans x0; have x110 := (V10.out.cellq (p := ⟨b, of + k * 5 + 1, none⟩) hb6 (fun h => h)).trans x1; have x210 := (V10.out.cellq (p := ⟨b, of + k * 5 + 2, none⟩) hb6 (fun h => h)).trans x2; have x310 := (V10.out.cellq (p := ⟨b, of + k * 5 + 3, none⟩) hb6 (fun h => h)).trans x3; have x410 := (V10.out.cellq (p := ⟨b, of + k * 5 + 4, none⟩) hb6 (fun h => h)).trans x4; have y010 := (V10.out.cellq (p := ⟨w4.heap.size, 0, none⟩) hly (fun h => h)).trans y0; have y110 := (V10.out.cellq (p := ⟨w4.heap.size, 1, none⟩) hly (fun h => h)).trans y1; have y210 := (V10.out.cellq (p := ⟨w4.heap.size, 2, none⟩) hly (fun h => h)).trans y2; have y310 := (V10.out.cellq (p := ⟨w4.heap.size, 3, none⟩) hly (fun h => h)).trans y3; have y410 := (V10.out.cellq (p := ⟨w4.heap.size, 4, none⟩) hly (fun h => h)).trans y4; have z010 := (V10.out.cellq (p := ⟨w5.heap.size, 0, none⟩) hlz (fun h => h)).trans z0; have z110 := (V10.out.cellq (p := ⟨w5.heap.size, 1, none⟩) hlz (fun h => h)).trans z1; have z210 := (V10.out.cellq (p := ⟨w5.heap.size, 2, none⟩) hlz (fun h => h)).trans z2; have z310 := (V10.out.cellq (p := ⟨w5.heap.size, 3, none⟩) hlz (fun h => h)).trans z3; have z410 := (V10.out.cellq (p := ⟨w5.heap.size, 4, none⟩) hlz (fun h => h)).trans z4) | (go_at_call 18; refine (all_to HN'.out (by omega) _ (G6.out.upd0 V8.out)).mono ?_; rintro e w9 ⟨A9, c9, rfl, hs9, _, hu9⟩; have S9 := Lib.hid hs9; have V9 := Lib.hid (V8.out.trans hu9 (fun _ h => h.elim)); clear hs9 hu9; have x09 := (V9.out.cellq (p := ⟨b, of + k * 5, none⟩) hb6 (fun h => h)).trans x0; have x19 := (V9.out.cellq (p := ⟨b, of + k * 5 + 1, none⟩) hb6 (fun h => h)).trans x1; have x29 := (V9.out.cellq (p := ⟨b, of + k * 5 + 2, none⟩) hb6 (fun h => h)).trans x2; have x39 := (V9.out.cellq (p := ⟨b, of + k * 5 + 3, none⟩) hb6 (fun h => h)).trans x3; have x49 := (V9.out.cellq (p := ⟨b, of + k * 5 + 4, none⟩) hb6 (fun h => h)).trans x4; have y09 := (V9.out.cellq (p := ⟨w4.heap.size, 0, none⟩) hly (fun h => h)).trans y0; have y19 := (V9.out.cellq (p := ⟨w4.heap.size, 1, none⟩) hly (fun h => h)).trans y1; have y29 := (V9.out.cellq (p := ⟨w4.heap.size, 2, none⟩) hly (fun h => h)).trans y2; have y39 := (V9.out.cellq (p := ⟨w4.heap.size, 3, none⟩) hly (fun h => h)).trans y3; have y49 := (V9.out.cellq (p := ⟨w4.heap.size, 4, none⟩) hly (fun h => h)).trans y4; have z09 := (V9.out.cellq (p := ⟨w5.heap.size, 0, none⟩) hlz (fun h => h)).trans z0; have z19 := (V9.out.cellq (p := ⟨w5.heap.size, 1, none⟩) hlz (fun h => h)).trans z1; have z29 := (V9.out.cellq (p := ⟨w5.heap.size, 2, none⟩) hlz (fun h => h)).trans z2; have z39 := (V9.out.cellq (p := ⟨w5.heap.size, 3, none⟩) hlz (fun h => h)).trans z3; have z49 := (V9.out.cellq (p := ⟨w5.heap.size, 4, none⟩) hlz (fun h => h)).trans z4) | (go_at_call 16; refine (rmay_to HMB.out _).mono ?_; rintro e w8 ⟨rfl, hd⟩; have V8 := Lib.hid (V7.out.trans (Upd.of_below hd (fun _ => False)) (fun _ h => h.elim)); clear hd; have x08 := (V8.out.cellq (p := ⟨b, of + k * 5, none⟩) hb6 (fun h => h)).trans x0; have x18 := (V8.out.cellq (p := ⟨b, of + k * 5 + 1, none⟩) hb6 (fun h => h)).trans x1; have x28 := (V8.out.cellq (p := ⟨b, of + k * 5 + 2, none⟩) hb6 (fun h => h)).trans x2; have x38 := (V8.out.cellq (p := ⟨b, of + k * 5 + 3, none⟩) hb6 (fun h => h)).trans x3; have x48 := (V8.out.cellq (p := ⟨b, of + k * 5 + 4, none⟩) hb6 (fun h => h)).trans x4; have y08 := (V8.out.cellq (p := ⟨w4.heap.size, 0, none⟩) hly (fun h => h)).trans y0; have y18 := (V8.out.cellq (p := ⟨w4.heap.size, 1, none⟩) hly (fun h => h)).trans y1; have y28 := (V8.out.cellq (p := ⟨w4.heap.size, 2, none⟩) hly (fun h => h)).trans y2; have y38 := (V8.out.cellq (p := ⟨w4.heap.size, 3, none⟩) hly (fun h => h)).trans y3; have y48 := (V8.out.cellq (p := ⟨w4.heap.size, 4, none⟩) hly (fun h => h)).trans y4; have z08 := (V8.out.cellq (p := ⟨w5.heap.size, 0, none⟩) hlz (fun h => h)).trans z0; have z18 := (V8.out.cellq (p := ⟨w5.heap.size, 1, none⟩) hlz (fun h => h)).trans z1; have z28 := (V8.out.cellq (p := ⟨w5.heap.size, 2, none⟩) hlz (fun h => h)).trans z2; have z38 := (V8.out.cellq (p := ⟨w5.heap.size, 3, none⟩) hlz (fun h => h)).trans z3; have z48 := (V8.out.cellq (p := ⟨w5.heap.size, 4, none⟩) hlz (fun h => h)).trans z4) | (go_at_call 15; refine (may_to HMB.out _).mono ?_; rintro e w7 ⟨rfl, hd⟩; have V7 : Hid (Upd (fun _ => False) w6 w7) := Lib.hid ((Upd.refl (fun _ => False) w6).drew.trans (Upd.of_below hd (fun _ => False)) (fun _ h => h.elim)); clear hd; have x07 := (V7.out.cellq (p := ⟨b, of + k * 5, none⟩) hb6 (fun h => h)).trans x0; have x17 := (V7.out.cellq (p := ⟨b, of + k * 5 + 1, none⟩) hb6 (fun h => h)).trans x1; have x27 := (V7.out.cellq (p := ⟨b, of + k * 5 + 2, none⟩) hb6 (fun h => h)).trans x2; have x37 := (V7.out.cellq (p := ⟨b, of + k * 5 + 3, none⟩) hb6 (fun h => h)).trans x3; have x47 := (V7.out.cellq (p := ⟨b, of + k * 5 + 4, none⟩) hb6 (fun h => h)).trans x4; have y07 := (V7.out.cellq (p := ⟨w4.heap.size, 0, none⟩) hly (fun h => h)).trans y0; have y17 := (V7.out.cellq (p := ⟨w4.heap.size, 1, none⟩) hly (fun h => h)).trans y1; have y27 := (V7.out.cellq (p := ⟨w4.heap.size, 2, none⟩) hly (fun h => h)).trans y2; have y37 := (V7.out.cellq (p := ⟨w4.heap.size, 3, none⟩) hly (fun h => h)).trans y3; have y47 := (V7.out.cellq (p := ⟨w4.heap.size, 4, none⟩) hly (fun h => h)).trans y4; have z07 := (V7.out.cellq (p := ⟨w5.heap.size, 0, none⟩) hlz (fun h => h)).trans z0; have z17 := (V7.out.cellq (p := ⟨w5.heap.size, 1, none⟩) hlz (fun h => h)).trans z1; have z27 := (V7.out.cellq (p := ⟨w5.heap.size, 2, none⟩) hlz (fun h => h)).trans z2; have z37 := (V7.out.cellq (p := ⟨w5.heap.size, 3, none⟩) hlz (fun h => h)).trans z3; have z47 := (V7.out.cellq (p := ⟨w5.heap.size, 4, none⟩) hlz (fun h => h)).trans z4))
      go_wp2
      go_roundw
      case rel => exact ⟨k + 1, F2, Y', n', c', L', by omega, by omega, hn1, by go_num, rfl, HLF2, HN', Lib.hid (G6.out.upd0 V10.out), Lib.hid (S6.out.upd0 V10.out), O3, Lib.hid (U6.out.trans V10.out (fun _ h => h.elim))⟩
      case measure => simp [intOf]; omega
    · obtain ⟨kk, hkk⟩ : ∃ kk : Nat, (if num < 0 then 0 else if num > (L.length : Int) then L.length else num.toNat) = kk := ⟨_, rfl⟩
      have HKK := Lib.hid hkk
      rw [HN.out] at hkk
      have HLT : Hid (L.length ≤ 1000) := Lib.hid (by rw [HN.out]; omega)
      have HD : Hid ((L.drop kk).length = n - kk) := Lib.hid (by rw [List.length_drop, HN.out])
      have hdm : n - kk ≤ 1000 := by omega
      have hcn : n ≤ c := hsl.out.le
      have hkn : kk ≤ n := by split at hkk; · omega
                              · split at hkk <;> omega
      by_cases h3 : k < len
      · have hk100 : k = 100 := by omega
        subst hk100
        clear h1
        by_cases q1 : num < 0
        · rw [if_pos q1] at hkk
          subst hkk
          go_wp2_with fail
          all_goals
            go_region_held3 (fun w' => True) (trivial) (first | (go_at_call 17; refine (rsame_to HN.out (by omega) _ S9.out (hsl.out.upd0 V9.out)).mono ?_; rintro e w10 ⟨rfl, hd⟩; have V10 := Lib.hid (V9.out.trans (Upd.of_below hd (fun _ => False)) (fun _ h => h.elim)); clear hd) | (go_at_call 19; refine (since_to HKK.out rfl HN.out HLT.out _ (hg.out.upd0 (Upd.refl _ _).drew)).mono ?_; rintro e w9 ⟨A9, c9, rfl, hs9, _, hu9⟩; have S9 := Lib.hid hs9; have V9 : Hid (Upd (fun _ => False) wr w9) := Lib.hid ((Upd.refl (fun _ => False) wr).drew.trans hu9 (fun _ h => h.elim)); clear hs9 hu9))
            go_wp2
            go_ret
            exact ⟨rfl, (hu.out.trans V10.out (fun _ h => h.elim)).below0⟩
        · rw [if_neg q1] at hkk
          by_cases q2 : num > (n : Int)
          · rw [if_pos q2] at hkk
            subst hkk
            by_cases hcc : c = n
            · subst hcc
              have DR : Hid (Sl wr Y 0 0 (fl o5 (L.drop c))) := Lib.hid (hsl.out.drop_cap c (Nat.le_refl _) rfl HN.out)
              have HD0 : Hid ((L.drop c).length = 0) := Lib.hid (by rw [HD.out]; omega)
              go_wp2_with fail
              all_goals
                go_region_held3 (fun w' => True) (trivial) (first | (go_at_call 17; refine (rsame_to HD0.out (by omega) _ S9.out (DR.out.upd0 V9.out)).mono ?_; rintro e w10 ⟨rfl, hd⟩; have V10 := Lib.hid (V9.out.trans (Upd.of_below hd (fun _ => False)) (fun _ h => h.elim)); clear hd) | (go_at_call 19; refine (since_to HKK.out rfl HD0.out HLT.out _ (hg.out.upd0 (Upd.refl _ _).drew)).mono ?_; rintro e w9 ⟨A9, c9, rfl, hs9, _, hu9⟩; have S9 := Lib.hid hs9; have V9 : Hid (Upd (fun _ => False) wr w9) := Lib.hid ((Upd.refl (fun _ => False) wr).drew.trans hu9 (fun _ h => h.elim)); clear hs9 hu9))
                go_wp2
                go_ret
                exact ⟨rfl, (hu.out.trans V10.out (fun _ h => h.elim)).below0⟩
            · have DR : Hid (Sl wr (Y.map (fun x => x.add (n * 5))) 0 (c - n) (fl o5 (L.drop n))) := Lib.hid (by have := hsl.out.drop o5_len n (Nat.le_refl _); rwa [Nat.sub_self] at this)
              have HD0 : Hid ((L.drop n).length = 0) := Lib.hid (by rw [HD.out]; omega)
              go_wp2_with fail
              all_goals
                go_region_held3 (fun w' => True) (trivial) (first | (go_at_call 17; refine (rsame_to HD0.out (by omega) _ S9.out (DR.out.upd0 V9.out)).mono ?_; rintro e w10 ⟨rfl, hd⟩; have V10 := Lib.hid (V9.out.trans (Upd.of_below hd (fun _ => False)) (fun _ h => h.elim)); clear hd) | (go_at_call 19; refine (since_to HKK.out rfl HD0.out HLT.out _ (hg.out.upd0 (Upd.refl _ _).drew)).mono ?_; rintro e w9 ⟨A9, c9, rfl, hs9, _, hu9⟩; have S9 := Lib.hid hs9; have V9 : Hid (Upd (fun _ => False) wr w9) := Lib.hid ((Upd.refl (fun _ => False) wr).drew.trans hu9 (fun _ h => h.elim)); clear hs9 hu9))
                go_wp2
                go_ret
                exact ⟨rfl, (hu.out.trans V10.out (fun _ h => h.elim)).below0⟩
          · rw [if_neg q2] at hkk
            subst hkk
            have q3 : num ≤ (n : Int) := by omega
            by_cases hcc : c = num.toNat
            · have DR : Hid (Sl wr Y (n - num.toNat) 0 (fl o5 (L.drop num.toNat))) := Lib.hid (by rw [show n - num.toNat = 0 by omega]; exact hsl.out.drop_cap num.toNat hkn hcc HN.out)
              go_wp2_with fail
              all_goals
                go_region_held3 (fun w' => True) (trivial) (first | (go_at_call 17; refine (rsame_to HD.out hdm _ S9.out (DR.out.upd0 V9.out)).mono ?_; rintro e w10 ⟨rfl, hd⟩; have V10 := Lib.hid (V9.out.trans (Upd.of_below hd (fun _ => False)) (fun _ h => h.elim)); clear hd) | (go_at_call 19; refine (since_to HKK.out rfl HD.out HLT.out _ (hg.out.upd0 (Upd.refl _ _).drew)).mono ?_; rintro e w9 ⟨A9, c9, rfl, hs9, _, hu9⟩; have S9 := Lib.hid hs9; have V9 : Hid (Upd (fun _ => False) wr w9) := Lib.hid ((Upd.refl (fun _ => False) wr).drew.trans hu9 (fun _ h => h.elim)); clear hs9 hu9))
                go_wp2
                go_ret
                exact ⟨rfl, (hu.out.trans V10.out (fun _ h => h.elim)).below0⟩
            · have DR : Hid (Sl wr (Y.map (fun x => x.add (num.toNat * 5))) (n - num.toNat) (c - num.toNat) (fl o5 (L.drop num.toNat))) := Lib.hid (hsl.out.drop o5_len num.toNat hkn)
              go_wp2_with fail
              all_goals
                go_region_held3 (fun w' => True) (trivial) (first | (go_at_call 17; refine (rsame_to HD.out hdm _ S9.out (DR.out.upd0 V9.out)).mono ?_; rintro e w10 ⟨rfl, hd⟩; have V10 := Lib.hid (V9.out.trans (Upd.of_below hd (fun _ => False)) (fun _ h => h.elim)); clear hd) | (go_at_call 19; refine (since_to HKK.out rfl HD.out HLT.out _ (hg.out.upd0 (Upd.refl _ _).drew)).mono ?_; rintro e w9 ⟨A9, c9, rfl, hs9, _, hu9⟩; have S9 := Lib.hid hs9; have V9 : Hid (Upd (fun _ => False) wr w9) := Lib.hid ((Upd.refl (fun _ => False) wr).drew.trans hu9 (fun _ h => h.elim)); clear hs9 hu9))
                go_wp2
                go_ret
                exact ⟨rfl, (hu.out.trans V10.out (fun _ h => h.elim)).below0⟩
      · have h4 : ¬ (k : Int) < (len : Int) := by omega
        clear h1
        by_cases q1 : num < 0
        · rw [if_pos q1] at hkk
          subst hkk
          go_wp2_with fail
          all_goals
            go_region_held3 (fun w' => True) (trivial) (first | (go_at_call 17; refine (rsame_to HN.out (by omega) _ S9.out (hsl.out.upd0 V9.out)).mono ?_; rintro e w10 ⟨rfl, hd⟩; have V10 := Lib.hid (V9.out.trans (Upd.of_below hd (fun _ => False)) (fun _ h => h.elim)); clear hd) | (go_at_call 19; refine (since_to HKK.out rfl HN.out HLT.out _ (hg.out.upd0 (Upd.refl _ _).drew)).mono ?_; rintro e w9 ⟨A9, c9, rfl, hs9, _, hu9⟩; have S9 := Lib.hid hs9; have V9 : Hid (Upd (fun _ => False) wr w9) := Lib.hid ((Upd.refl (fun _ => False) wr).drew.trans hu9 (fun _ h => h.elim)); clear hs9 hu9))
            go_wp2
            go_ret
            exact ⟨rfl, (hu.out.trans V10.out (fun _ h => h.elim)).below0⟩
        · rw [if_neg q1] at hkk
          by_cases q2 : num > (n : Int)
          · rw [if_pos q2] at hkk
            subst hkk
            by_cases hcc : c = n
            · subst hcc
              have DR : Hid (Sl wr Y 0 0 (fl o5 (L.drop c))) := Lib.hid (hsl.out.drop_cap c (Nat.le_refl _) rfl HN.out)
              have HD0 : Hid ((L.drop c).length = 0) := Lib.hid (by rw [HD.out]; omega)
              go_wp2_with fail
              all_goals
                go_region_held3 (fun w' => True) (trivial) (first | (go_at_call 17; refine (rsame_to HD0.out (by omega) _ S9.out (DR.out.upd0 V9.out)).mono ?_; rintro e w10 ⟨rfl, hd⟩; have V10 := Lib.hid (V9.out.trans (Upd.of_below hd (fun _ => False)) (fun _ h => h.elim)); clear hd) | (go_at_call 19; refine (since_to HKK.out rfl HD0.out HLT.out _ (hg.out.upd0 (Upd.refl _ _).drew)).mono ?_; rintro e w9 ⟨A9, c9, rfl, hs9, _, hu9⟩; have S9 := Lib.hid hs9; have V9 : Hid (Upd (fun _ => False) wr w9) := Lib.hid ((Upd.refl (fun _ => False) wr).drew.trans hu9 (fun _ h => h.elim)); clear hs9 hu9))
                go_wp2
                go_ret
                exact ⟨rfl, (hu.out.trans V10.out (fun _ h => h.elim)).below0⟩
            · have DR : Hid (Sl wr (Y.map (fun x => x.add (n * 5))) 0 (c - n) (fl o5 (L.drop n))) := Lib.hid (by have := hsl.out.drop o5_len n (Nat.le_refl _); rwa [Nat.sub_self] at this)
              have HD0 : Hid ((L.drop n).length = 0) := Lib.hid (by rw [HD.out]; omega)
              go_wp2_with fail
              all_goals
                go_region_held3 (fun w' => True) (trivial) (first | (go_at_call 17; refine (rsame_to HD0.out (by omega) _ S9.out (DR.out.upd0 V9.out)).mono ?_; rintro e w10 ⟨rfl, hd⟩; have V10 := Lib.hid (V9.out.trans (Upd.of_below hd (fun _ => False)) (fun _ h => h.elim)); clear hd) | (go_at_call 19; refine (since_to HKK.out rfl HD0.out HLT.out _ (hg.out.upd0 (Upd.refl _ _).drew)).mono ?_; rintro e w9 ⟨A9, c9, rfl, hs9, _, hu9⟩; have S9 := Lib.hid hs9; have V9 : Hid (Upd (fun _ => False) wr w9) := Lib.hid ((Upd.refl (fun _ => False) wr).drew.trans hu9 (fun _ h => h.elim)); clear hs9 hu9))
                go_wp2
                go_ret
                exact ⟨rfl, (hu.out.trans V10.out (fun _ h => h.elim)).below0⟩
          · rw [if_neg q2] at hkk
            subst hkk
            have q3 : num ≤ (n : Int) := by omega
            by_cases hcc : c = num.toNat
            · have DR : Hid (Sl wr Y (n - num.toNat) 0 (fl o5 (L.drop num.toNat))) := Lib.hid (by rw [show n - num.toNat = 0 by omega]; exact hsl.out.drop_cap num.toNat hkn hcc HN.out)
              go_wp2_with fail
              all_goals
                go_region_held3 (fun w' => True) (trivial) (first | (go_at_call 17; refine (rsame_to HD.out hdm _ S9.out (DR.out.upd0 V9.out)).mono ?_; rintro e w10 ⟨rfl, hd⟩; have V10 := Lib.hid (V9.out.trans (Upd.of_below hd (fun _ => False)) (fun _ h => h.elim)); clear hd) | (go_at_call 19; refine (since_to HKK.out rfl HD.out HLT.out _ (hg.out.upd0 (Upd.refl _ _).drew)).mono ?_; rintro e w9 ⟨A9, c9, rfl, hs9, _, hu9⟩; have S9 := Lib.hid hs9; have V9 : Hid (Upd (fun _ => False) wr w9) := Lib.hid ((Upd.refl (fun _ => False) wr).drew.trans hu9 (fun _ h => h.elim)); clear hs9 hu9))
                go_wp2
                go_ret
                exact ⟨rfl, (hu.out.trans V10.out (fun _ h => h.elim)).below0⟩
            · have DR : Hid (Sl wr (Y.map (fun x => x.add (num.toNat * 5))) (n - num.toNat) (c - num.toNat) (fl o5 (L.drop num.toNat))) := Lib.hid (hsl.out.drop o5_len num.toNat hkn)
              go_wp2_with fail
              all_goals
                go_region_held3 (fun w' => True) (trivial) (first | (go_at_call 17; refine (rsame_to HD.out hdm _ S9.out (DR.out.upd0 V9.out)).mono ?_; rintro e w10 ⟨rfl, hd⟩; have V10 := Lib.hid (V9.out.trans (Upd.of_below hd (fun _ => False)) (fun _ h => h.elim)); clear hd) | (go_at_call 19; refine (since_to HKK.out rfl HD.out HLT.out _ (hg.out.upd0 (Upd.refl _ _).drew)).mono ?_; rintro e w9 ⟨A9, c9, rfl, hs9, _, hu9⟩; have S9 := Lib.hid hs9; have V9 : Hid (Upd (fun _ => False) wr w9) := Lib.hid ((Upd.refl (fun _ => False) wr).drew.trans hu9 (fun _ h => h.elim)); clear hs9 hu9))
                go_wp2
                go_ret
                exact ⟨rfl, (hu.out.trans V10.out (fun _ h => h.elim)).below0⟩
end Go.Proofs.Ytmpacmjlpkhgoaa
