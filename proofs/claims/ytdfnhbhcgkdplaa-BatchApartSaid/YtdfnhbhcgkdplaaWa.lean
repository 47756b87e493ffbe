/- BatchApart's walk. -/
import Derived.Test.YtdfnhbhcgkdplaaSm
import Derived.Test.YtdfnhbhcgkdplaaMd
import Derived.Test.YtdfnhbhcgkdplaaAp
namespace Go.Proofs.Ytdfnhbhcgkdplaa
open Go.RowKit
set_option linter.unusedVariables false
set_option linter.unusedSimpArgs false

theorem infoRM : (Try.prog.info? 45).map (fun i => (i.zero, i.size, i.bytes)) = some (some (.agg #[.int .i64 0, .int .i64 0]), 2, 16) := by kernel_rfl
theorem infoI3 : (Try.prog.info? 3).map (fun i => (i.zero, i.size, i.bytes)) = some (some (.int .i64 0), 1, 8) := by kernel_rfl
/-- What each operation of the copy yields. -/
def cpΦ (G base : Nat) (A M : Option Addr) (n c m d : Nat) (xs : List Int) (ms : List (Int × Int)) : Nat → Value → World → Prop
  | 0, v, w => ∃ g, v = .slice (some ⟨g, 0, none⟩) 0 0 ∧ w.ownsRow base 3 1 v 0 []
  | 1, v, w => v = .pointer (some ⟨G, 0, none⟩)
  | 2, v, w => v = .slice A n c
  | 3, v, w => w.ownsRow base 3 1 v n (nums xs)
  | 4, v, w => ∃ g, v = .slice (some ⟨g, 0, none⟩) 0 0 ∧ w.ownsRow base 45 2 v 0 []
  | 5, v, w => v = .agg #[.slice A n c, .slice M m d]
  | 6, v, w => ∃ M' d', v = .agg #[.slice A n c, .slice M' m d'] ∧ Sl w M' m d' (prs ms)
  | 7, v, w => ∃ M' d', v = .slice M' m d' ∧ Sl w M' m d' (prs ms)
  | 8, v, w => w.ownsRow base 45 2 v m (prs ms)
  | 9, v, w => ∃ v1 v2, v = .agg #[v1, v2] ∧ w.ownsRow base 3 1 v1 n (nums xs) ∧ w.ownsRow base 45 2 v2 m (prs ms)
  | 10, v, w => ∃ g, v = .pointer (some ⟨g, 0, none⟩) ∧ base ≤ g ∧ Blk w g 25 #[.slice none 0 0, .slice none 0 0]
  | _, _, _ => True
theorem own_empty {w : World} {g : Nat} {t : TypeId} {base size : Nat} (h : Blk w g t #[]) (hg : base ≤ g) : w.ownsRow base t size (.slice (some ⟨g, 0, none⟩) 0 0) 0 [] :=
  ⟨by simp, .inr ⟨g, 0, #[], rfl, hg, h, Nat.le_refl _, by simp [maxLen], by simp, by simp⟩⟩
theorem nums_one (xs : List Int) : ∀ u ∈ nums xs, u.oneCell' = true := by
  intro u hu
  obtain ⟨x, _, rfl⟩ := List.mem_map.1 hu
  rfl
theorem prs_one (ms : List (Int × Int)) : ∀ u ∈ prs ms, u.oneCell' = true := by
  intro u hu
  obtain ⟨x, _, hx⟩ := List.mem_flatMap.1 hu
  simp at hx
  rcases hx with rfl | rfl <;> rfl
theorem badd_le {xs xs' : List Int} {ms ms' : List (Int × Int)} {id arg most : Int} {ok : Bool} (h : badd xs ms id arg most = (xs', ms', ok)) {a b : Nat} (ha : xs.length ≤ a) (hb : ms.length ≤ b) : xs'.length ≤ a + 1 ∧ ms'.length ≤ b + 1 := by
  unfold badd at h
  split at h
  · simp only [Prod.mk.injEq] at h; obtain ⟨rfl, rfl, _⟩ := h; simp; omega
  · split at h
    · simp only [Prod.mk.injEq] at h; obtain ⟨rfl, rfl, _⟩ := h; omega
    · simp only [Prod.mk.injEq] at h; obtain ⟨rfl, rfl, _⟩ := h; simp; omega
theorem real_to {A M : Option Addr} {c d n m : Nat} {ms : List (Int × Int)} (hm : ms.length = m) (hml : m ≤ 1000) (w : World) (hs : Sl w M m d (prs ms)) :
    Calls Try.prog 18 #[.agg #[.slice A n c, .slice M m d]] w fun e w' => ∃ M' d',
      e = .returned (.agg #[.slice A n c, .slice M' m d']) ∧ Sl w' M' m d' (prs ms) ∧ Below w.heap.size w w' := by
  subst hm
  exact real_any A M c d n ms hml w hs
theorem cpΦ_stab {G base : Nat} {A M : Option Addr} {n c m d : Nat} {xs : List Int} {ms : List (Int × Int)} : ∀ j v w w', cpΦ G base A M n c m d xs ms j v w → Upd (fun _ => False) w w' → cpΦ G base A M n c m d xs ms j v w' := by
  intro j v w w' h hu
  have ho : ∀ {e size v n xs}, w.ownsRow base e size v n xs → w'.ownsRow base e size v n xs := fun h => own_upd h hu (fun _ _ h => h)
  match j, h with
  | 0, ⟨g, h1, h2⟩ => exact ⟨g, h1, ho h2⟩
  | 1, h => exact h
  | 2, h => exact h
  | 3, h => exact ho h
  | 4, ⟨g, h1, h2⟩ => exact ⟨g, h1, ho h2⟩
  | 5, h => exact h
  | 6, ⟨M', d', h1, h2⟩ => exact ⟨M', d', h1, h2.upd0 hu⟩
  | 7, ⟨M', d', h1, h2⟩ => exact ⟨M', d', h1, h2.upd0 hu⟩
  | 8, h => exact ho h
  | 9, ⟨v1, v2, h1, h2, h3⟩ => exact ⟨v1, v2, h1, ho h2, ho h3⟩
  | 10, ⟨g, h1, h2, h3⟩ => exact ⟨g, h1, h2, h3.upd hu (fun h => h)⟩
  | n + 11, _ => trivial

theorem own_sep {w : World} {base : Nat} {e t : TypeId} {size n g : Nat} {v : Value} {xs : List Value} {cs : Array Value} (h : w.ownsRow base e size v n xs) (hb : Blk w g t cs) (hne : e ≠ t) : v.ownBlock ≠ some g := by
  rcases h.2 with ⟨rfl, _⟩ | ⟨g', cap, cur, rfl, _, hh, _⟩
  · simp [Value.ownBlock]
  · intro he
    have he : g' = g := by simpa [Value.ownBlock] using he
    subst he
    unfold Blk at hb
    rw [hb] at hh
    injection hh with hh
    injection hh with h1 h2
    exact hne h2.symm
theorem own_far {w : World} {base : Nat} {e : TypeId} {size n : Nat} {v : Value} {xs : List Value} (h : w.ownsRow base e size v n xs) {p : Addr} (hn : v.ownBlock ≠ some p.block) (u : Value) : (w.setCell p u).ownsRow base e size v n xs :=
  own_upd h ((Upd.refl (fun k => k = p.block) w).set (p := p) (.inl rfl) u) (fun b hb he => hn (by rw [hb, he]))

set_option maxRecDepth 100000 in
set_option maxHeartbeats 4000000 in
theorem bapart_any (L : Option Addr) (len cap : Nat) (l : List (Int × Int)) (hl : l.length = len) (hm : len ≤ 9223372036854775807) (p1 q1 p2 q2 : Int) (w : World) (hs : Sl w L len cap (prs l)) :
    Calls Try.prog 7 #[.slice L len cap, .agg #[.int .i64 p1, .int .i64 q1], .agg #[.int .i64 p2, .int .i64 q2]] w fun e w' => e = .returned (.bool true) ∧ Below w.heap.size w w' := by
  obtain ⟨i0, hj, hz0, hz1, hz2⟩ := info_parts infoRM
  obtain ⟨k0, kj, kz0, kz1, kz2⟩ := info_parts infoI3
  have HS := Lib.hid hs
  have HL := Lib.hid hl
  clear hs hl
  go_enter Try.func7, Try.ntmps7
  go_wp2_with fail
  refine (awake_any _).mono ?_
  rintro e w0 ⟨rfl, hd0⟩
  have HU0 := Lib.hid ((((Upd.refl (fun _ => False) w).alloc _).alloc _).trans (Upd.of_below hd0 (fun _ => False)) (fun _ h => h.elim))
  have X0 : Hid (Blk w0 w.heap.size 58 #[.int .i64 p1, .int .i64 q1]) := Lib.hid (((Blk.new w _ _).alloc _).upd (Upd.of_below hd0 (fun _ => False)) (fun h => h))
  have Y0 : Hid (Blk w0 (w.heap.size + 1) 58 #[.int .i64 p2, .int .i64 q2]) := Lib.hid ((Blk.new1 w _ _ _).upd (Upd.of_below hd0 (fun _ => False)) (fun h => h))
  clear hd0
  go_wp2_with fail
  refine (all_any _ len cap l HL.out hm _ _ (HS.out.upd0 HU0.out)).mono ?_
  rintro e w1 ⟨A, c, M, d, T, tc, n, m, t, rfl, ha, hb, ht, hn, hmm, htt, hd⟩
  obtain ⟨hk1, hk2, _⟩ := ball_le 9 l
  rw [hn] at hk1
  rw [hmm] at hk2
  obtain ⟨⟨xs, ms, tk⟩, hball⟩ : ∃ s, s = ball 9 l := ⟨_, rfl⟩
  rw [← hball] at ha hb ht hn hmm htt
  simp only at ha hb ht hn hmm htt
  have hd1 := Upd.of_below hd (fun _ => False)
  have PA := Lib.hid (ha.alloc (.cells #[.slice A n c, .slice M m d] 31))
  have PM := Lib.hid (hb.alloc (.cells #[.slice A n c, .slice M m d] 31))
  have PB := Lib.hid (Blk.new w1 #[.slice A n c, .slice M m d] 31)
  have PL := Lib.hid (And.intro hn hmm)
  have PS : Hid ((w1.alloc (.cells #[.slice A n c, .slice M m d] 31)).heap.size = w1.heap.size + 1) := Lib.hid (by simp)
  have X1 := Lib.hid (((X0.out.upd hd1 (fun h => h))).alloc (.cells #[.slice A n c, .slice M m d] 31))
  have Y1 := Lib.hid (((Y0.out.upd hd1 (fun h => h))).alloc (.cells #[.slice A n c, .slice M m d] 31))
  have U1 := Lib.hid ((HU0.out.trans hd1 (fun _ h => h.elim)).alloc (.cells #[.slice A n c, .slice M m d] 31))
  clear ha hb ht hn hmm htt hd hball hd1 HU0 X0 Y0 HS
  go_wp2_with fail
  refine wp_region_inv (by kernel_rfl) (by kernel_rfl) (cpΦ (w1.heap.size) (w1.heap.size + 1) A M n c m d xs ms) cpΦ_stab ?_ ?_
  · intro j o k ho hne hk a w' hF hD
    have hBB := (PB.out.drew).upd hF.upd (fun h => h)
    have b0 := hBB.cell 0
    have b1 := hBB.cell 1
    have e8 : a.tmps.getD 8 undef = .pointer (some ⟨w1.heap.size, 0, none⟩) := hF.keep 8 (by kernel_rfl)
    have hbs : w1.heap.size + 1 ≤ w'.heap.size := by have := hF.upd.size; simpa using this
    have hbs' : w1.heap.size < w'.heap.size := hBB.lt
    have hj11 : j < 11 := by
      have := (Array.getElem?_eq_some_iff.1 ho).1
      simp at this hne
      omega
    rcases j with _ | _ | _ | _ | _ | _ | _ | _ | _ | _ | _ | j
    all_goals (try (exfalso; omega))
    all_goals simp at ho
    all_goals subst ho
    all_goals simp at hk
    all_goals (try subst hk)
    · unfold Oper.wp
      go_simp
      exact ⟨_, rfl, (Upd.refl _ _).alloc _, ⟨w'.heap.size, rfl, own_empty (Blk.new _ _ _) hbs⟩⟩
    · unfold Oper.wp
      go_simp
      exact ⟨_, rfl, Upd.refl _ _, rfl⟩
    · have f1 : a.tmps.getD 21 undef = .pointer (some ⟨w1.heap.size, 0, none⟩) := hD ⟨1, .data⟩ (by simp) rfl _ _ rfl rfl
      unfold Oper.wp
      go_simp
      exact ⟨_, rfl, Upd.refl _ _, rfl⟩
    · obtain ⟨g, h1, h2⟩ : cpΦ (w1.heap.size) (w1.heap.size + 1) A M n c m d xs ms 0 (a.tmps.getD 20 undef) w' := hD ⟨0, .data⟩ (by simp) rfl _ _ rfl rfl
      have f2 : a.tmps.getD 22 undef = .slice A n c := hD ⟨2, .data⟩ (by simp) rfl _ _ rfl rfl
      rw [h1] at h2
      have hsl := PA.out.drew.upd0 hF.upd
      exact wp_append_fresh (.tmp 20) (.tmp 22) _ rfl (w1.heap.size + 1) 3 k0 (.int .i64 0) 1 8 Try.underlying22 kj kz0 kz1 kz2 rfl (by decide) g h1 h2 A n c (nums xs) f2 hsl.nil (by rw [nums_len, PL.out.1]; omega) hsl.holds (nums_one _) (by unfold maxLen; omega) (by omega) hbs (fun v' w2 ho hu => ⟨v', rfl, hu, ho⟩)
    · unfold Oper.wp
      go_simp
      exact ⟨_, rfl, (Upd.refl _ _).alloc _, ⟨w'.heap.size, rfl, own_empty (Blk.new _ _ _) hbs⟩⟩
    · unfold Oper.wp
      go_simp
      exact ⟨_, rfl, Upd.refl _ _, rfl⟩
    · have f5 : a.tmps.getD 25 undef = .agg #[.slice A n c, .slice M m d] := hD ⟨5, .data⟩ (by simp) rfl _ _ rfl rfl
      have HSL := Lib.hid (PM.out.drew.upd0 hF.upd)
      clear hD
      unfold Oper.wp
      go_simp
      have hc := real_any A M c d n ms (by rw [PL.out.2]; omega) w' (by rw [PL.out.2]; exact HSL.out)
      rw [PL.out.2] at hc
      refine hc.mono ?_
      rintro e w2 ⟨M', d', rfl, hs, hd⟩
      exact ⟨_, rfl, Upd.of_below hd _, ⟨M', d', rfl, hs⟩⟩
    · obtain ⟨M', d', h1, h2⟩ : cpΦ (w1.heap.size) (w1.heap.size + 1) A M n c m d xs ms 6 (a.tmps.getD 26 undef) w' := hD ⟨6, .data⟩ (by simp) rfl _ _ rfl rfl
      unfold Oper.wp
      go_simp
      exact ⟨_, rfl, Upd.refl _ _, ⟨M', d', rfl, h2⟩⟩
    · obtain ⟨g, h1, h2⟩ : cpΦ (w1.heap.size) (w1.heap.size + 1) A M n c m d xs ms 4 (a.tmps.getD 24 undef) w' := hD ⟨4, .data⟩ (by simp) rfl _ _ rfl rfl
      obtain ⟨M', d', h3, hsl⟩ : cpΦ (w1.heap.size) (w1.heap.size + 1) A M n c m d xs ms 7 (a.tmps.getD 27 undef) w' := hD ⟨7, .data⟩ (by simp) rfl _ _ rfl rfl
      rw [h1] at h2
      exact wp_append_fresh (.tmp 24) (.tmp 27) _ rfl (w1.heap.size + 1) 45 i0 (.agg #[.int .i64 0, .int .i64 0]) 2 16 Try.underlying23 hj hz0 hz1 hz2 rfl (by decide) g h1 h2 M' m d' (prs ms) h3 hsl.nil (by rw [prs_len, PL.out.2]) hsl.holds (prs_one _) (by unfold maxLen; omega) (by omega) hbs (fun v' w2 ho hu => ⟨v', rfl, hu, ho⟩)
    · have h3 : cpΦ (w1.heap.size) (w1.heap.size + 1) A M n c m d xs ms 3 (a.tmps.getD 23 undef) w' := hD ⟨3, .data⟩ (by simp) rfl _ _ rfl rfl
      have h8 : cpΦ (w1.heap.size) (w1.heap.size + 1) A M n c m d xs ms 8 (a.tmps.getD 28 undef) w' := hD ⟨8, .data⟩ (by simp) rfl _ _ rfl rfl
      obtain ⟨v1, e1⟩ : ∃ v, a.tmps.getD 23 undef = v := ⟨_, rfl⟩
      obtain ⟨v2, e2⟩ : ∃ v, a.tmps.getD 28 undef = v := ⟨_, rfl⟩
      rw [e1] at h3
      rw [e2] at h8
      have H38 := Lib.hid (And.intro h3 h8)
      obtain ⟨A', c', rfl, _⟩ := Sl.of_own h3
      obtain ⟨M', d', rfl, _⟩ := Sl.of_own h8
      have e1' : a.tmps[23]?.getD undef = .slice A' n c' := by rw [← Array.getD_eq_getD_getElem?]; exact e1
      have e2' : a.tmps[28]?.getD undef = .slice M' m d' := by rw [← Array.getD_eq_getD_getElem?]; exact e2
      clear h3 h8 hD
      unfold Oper.wp
      go_simp
      exact ⟨_, rfl, Upd.refl _ _, ⟨_, _, rfl, H38.out.1, H38.out.2⟩⟩
    · unfold Oper.wp
      go_simp
      exact ⟨_, rfl, (Upd.refl _ _).alloc _, ⟨w'.heap.size, rfl, hbs, Blk.new _ _ _⟩⟩
  · intro o ho a w' hF hD
    have h9 : cpΦ (w1.heap.size) (w1.heap.size + 1) A M n c m d xs ms 9 (a.tmps.getD 29 undef) w' := hD 9 _ _ rfl (by simp) rfl
    have h10 : cpΦ (w1.heap.size) (w1.heap.size + 1) A M n c m d xs ms 10 (a.tmps.getD 10 undef) w' := hD 10 _ _ rfl (by simp) rfl
    obtain ⟨v1, v2, e9, o1, o2⟩ := h9
    obtain ⟨g1, e10, hg, hbg⟩ := h10
    have OO := Lib.hid (And.intro o1 o2)
    obtain ⟨A1x, c1x, rfl, s1, hA'⟩ := Sl.of_own o1
    obtain ⟨M1x, d1x, rfl, s2, hM'⟩ := Sl.of_own o2
    have hcg := hbg.cell
    have hfg := hbg.frz
    have hlg := hbg.lt
    have HGB := Lib.hid hbg
    have HF := Lib.hid hF
    have HU := Lib.hid (((Upd.refl (fun _ => False) (w1.alloc (.cells #[.slice A n c, .slice M m d] 31))).drew).trans hF.upd (fun _ h => h.elim))
    clear o1 o2 s1 s2 hbg hF hD hA' hM'
    simp at ho
    subst ho
    unfold Oper.wp
    go_simp
    rename_i hK1
    refine hK1 _ _ ?_
    clear hK1
    rw [HF.out.act [false, false, false, false, false, false, false, false, false, false, true, false, false, false, false, false, false, false, false, false, true, true, true, true, true, true, true, true, true, true, false, false, false, false, false, false, false, false, false, false, false, false, false, false, false, false, false, false, false, false, false, false, false, false, false, false, false, false, false, false, false, false, false, false, false, false, false, false] (by kernel_rfl)]
    simp only [pickv, Nat.reduceAdd, Nat.zero_add, e10]
    clear e10 e9 HF
    generalize a.tmps.getD 20 undef = u20
    generalize a.tmps.getD 21 undef = u21
    generalize a.tmps.getD 22 undef = u22
    generalize a.tmps.getD 23 undef = u23
    generalize a.tmps.getD 24 undef = u24
    generalize a.tmps.getD 25 undef = u25
    generalize a.tmps.getD 26 undef = u26
    generalize a.tmps.getD 27 undef = u27
    generalize a.tmps.getD 28 undef = u28
    generalize a.tmps.getD 29 undef = u29
    have QN1 : Hid (Blk ((w'.setCell ⟨g1, 0, none⟩ (.slice A1x n c1x)).setCell ⟨g1, 1, none⟩ (.slice M1x m d1x)) g1 25 #[.slice A1x n c1x, .slice M1x m d1x]) := Lib.hid ((HGB.out.set 0 _).set 1 _)
    have QA1 : Hid (Sl ((w'.setCell ⟨g1, 0, none⟩ (.slice A1x n c1x)).setCell ⟨g1, 1, none⟩ (.slice M1x m d1x)) A1x n c1x (nums xs)) := Lib.hid (by
        obtain ⟨A2, c2, e, hs, _⟩ := Sl.of_own (own_far (p := ⟨g1, 1, none⟩) (own_far (p := ⟨g1, 0, none⟩) OO.out.1 (own_sep OO.out.1 HGB.out (by decide)) (.slice A1x n c1x)) (own_sep OO.out.1 HGB.out (by decide)) (.slice M1x m d1x))
        injection e with e1 e2 e3
        subst e1
        subst e3
        exact hs)
    have QM1 : Hid (Sl ((w'.setCell ⟨g1, 0, none⟩ (.slice A1x n c1x)).setCell ⟨g1, 1, none⟩ (.slice M1x m d1x)) M1x m d1x (prs ms)) := Lib.hid (by
        obtain ⟨A2, c2, e, hs, _⟩ := Sl.of_own (own_far (p := ⟨g1, 1, none⟩) (own_far (p := ⟨g1, 0, none⟩) OO.out.2 (own_sep OO.out.2 HGB.out (by decide)) (.slice A1x n c1x)) (own_sep OO.out.2 HGB.out (by decide)) (.slice M1x m d1x))
        injection e with e1 e2 e3
        subst e1
        subst e3
        exact hs)
    have QU1 : Hid (Upd (fun _ => False) (w1.alloc (.cells #[.slice A n c, .slice M m d] 31)) ((w'.setCell ⟨g1, 0, none⟩ (.slice A1x n c1x)).setCell ⟨g1, 1, none⟩ (.slice M1x m d1x))) := Lib.hid ((HU.out.set (p := ⟨g1, 0, none⟩) (.inr (by rw [PS.out]; exact hg)) _).set (p := ⟨g1, 1, none⟩) (.inr (by rw [PS.out]; exact hg)) _)
    generalize ((w'.setCell ⟨g1, 0, none⟩ (.slice A1x n c1x)).setCell ⟨g1, 1, none⟩ (.slice M1x m d1x)) = V1 at QN1 QA1 QM1 QU1 ⊢
    clear OO HGB HU hcg hfg hlg hg
    have cx := (X1.out.upd QU1.out (fun h => h)).cell
    have cb := (PB.out.upd QU1.out (fun h => h)).cell
    obtain ⟨xs2, ms2, ok, hb⟩ : ∃ xs' ms' ok, badd xs ms p1 q1 9 = (xs', ms', ok) := ⟨_, _, _, rfl⟩
    have HBD := Lib.hid hb
    obtain ⟨n3, hn3⟩ : ∃ n3, xs2.length = n3 := ⟨_, rfl⟩
    obtain ⟨m3, hm3'⟩ : ∃ m3, ms2.length = m3 := ⟨_, rfl⟩
    obtain ⟨hk3, hk4⟩ := badd_le hb (a := 20) (b := 20) (by rw [PL.out.1]; exact hk1) (by rw [PL.out.2]; exact hk2)
    rw [hn3] at hk3
    rw [hm3'] at hk4
    have PL3 := Lib.hid (And.intro hn3 hm3')
    clear hb hn3 hm3'
    go_wp2_with fail
    refine (add_to HBD.out PL.out.1 PL.out.2 PL3.out.1 PL3.out.2 (by omega) (by omega) _ (PA.out.upd0 QU1.out) (PM.out.upd0 QU1.out)).mono ?_
    rintro e w3 ⟨A3, c3, M3, d3, rfl, ha3, hm3, _, _, hd3⟩
    have T3 := Lib.hid ((Upd.of_below hd3 (fun _ => False)).alloc (.cells #[.slice A3 n3 c3, .slice M3 m3 d3] 31))
    have U3 := Lib.hid (QU1.out.trans T3.out (fun _ h => h.elim))
    have OB := Lib.hid (PB.out.upd U3.out (fun h => h))
    have OA := Lib.hid (PA.out.upd0 U3.out)
    have OM := Lib.hid (PM.out.upd0 U3.out)
    have OL := Lib.hid PL.out
    have Y3 := Lib.hid (Y1.out.upd U3.out (fun h => h))
    have N3 := Lib.hid (QN1.out.upd T3.out (fun h => h))
    have NA3 := Lib.hid (QA1.out.upd0 T3.out)
    have NM3 := Lib.hid (QM1.out.upd0 T3.out)
    have US3 := Lib.hid (U1.out.trans U3.out (fun _ h => h.elim))
    clear cx cb PA PB PM PL PS QN1 QA1 QM1 QU1 X1 Y1 U1 U3 T3
    have PA := Lib.hid (ha3.alloc (.cells #[.slice A3 n3 c3, .slice M3 m3 d3] 31))
    have PM := Lib.hid (hm3.alloc (.cells #[.slice A3 n3 c3, .slice M3 m3 d3] 31))
    have PB := Lib.hid (Blk.new w3 #[.slice A3 n3 c3, .slice M3 m3 d3] 31)
    have PL := Lib.hid PL3.out
    have PS : Hid ((w3.alloc (.cells #[.slice A3 n3 c3, .slice M3 m3 d3] 31)).heap.size = w3.heap.size + 1) := Lib.hid (by simp)
    clear ha3 hm3 hd3
    go_wp2_with fail
    refine wp_region_inv (by kernel_rfl) (by kernel_rfl) (cpΦ (w3.heap.size) (w3.heap.size + 1) A3 M3 n3 c3 m3 d3 xs2 ms2) cpΦ_stab ?_ ?_
    · intro j o k ho hne hk a w' hF hD
      have hBB := (PB.out.drew).upd hF.upd (fun h => h)
      have b0 := hBB.cell 0
      have b1 := hBB.cell 1
      have e8 : a.tmps.getD 11 undef = .pointer (some ⟨w3.heap.size, 0, none⟩) := hF.keep 11 (by kernel_rfl)
      have hbs : w3.heap.size + 1 ≤ w'.heap.size := by have := hF.upd.size; simpa using this
      have hbs' : w3.heap.size < w'.heap.size := hBB.lt
      have hj11 : j < 11 := by
        have := (Array.getElem?_eq_some_iff.1 ho).1
        simp at this hne
        omega
      rcases j with _ | _ | _ | _ | _ | _ | _ | _ | _ | _ | _ | j
      all_goals (try (exfalso; omega))
      all_goals simp at ho
      all_goals subst ho
      all_goals simp at hk
      all_goals (try subst hk)
      · unfold Oper.wp
        go_simp
        exact ⟨_, rfl, (Upd.refl _ _).alloc _, ⟨w'.heap.size, rfl, own_empty (Blk.new _ _ _) hbs⟩⟩
      · unfold Oper.wp
        go_simp
        exact ⟨_, rfl, Upd.refl _ _, rfl⟩
      · have f1 : a.tmps.getD 40 undef = .pointer (some ⟨w3.heap.size, 0, none⟩) := hD ⟨1, .data⟩ (by simp) rfl _ _ rfl rfl
        unfold Oper.wp
        go_simp
        exact ⟨_, rfl, Upd.refl _ _, rfl⟩
      · obtain ⟨g, h1, h2⟩ : cpΦ (w3.heap.size) (w3.heap.size + 1) A3 M3 n3 c3 m3 d3 xs2 ms2 0 (a.tmps.getD 39 undef) w' := hD ⟨0, .data⟩ (by simp) rfl _ _ rfl rfl
        have f2 : a.tmps.getD 41 undef = .slice A3 n3 c3 := hD ⟨2, .data⟩ (by simp) rfl _ _ rfl rfl
        rw [h1] at h2
        have hsl := PA.out.drew.upd0 hF.upd
        exact wp_append_fresh (.tmp 39) (.tmp 41) _ rfl (w3.heap.size + 1) 3 k0 (.int .i64 0) 1 8 Try.underlying22 kj kz0 kz1 kz2 rfl (by decide) g h1 h2 A3 n3 c3 (nums xs2) f2 hsl.nil (by rw [nums_len, PL.out.1]; omega) hsl.holds (nums_one _) (by unfold maxLen; omega) (by omega) hbs (fun v' w2 ho hu => ⟨v', rfl, hu, ho⟩)
      · unfold Oper.wp
        go_simp
        exact ⟨_, rfl, (Upd.refl _ _).alloc _, ⟨w'.heap.size, rfl, own_empty (Blk.new _ _ _) hbs⟩⟩
      · unfold Oper.wp
        go_simp
        exact ⟨_, rfl, Upd.refl _ _, rfl⟩
      · have f5 : a.tmps.getD 44 undef = .agg #[.slice A3 n3 c3, .slice M3 m3 d3] := hD ⟨5, .data⟩ (by simp) rfl _ _ rfl rfl
        have HSL := Lib.hid (PM.out.drew.upd0 hF.upd)
        clear hD
        unfold Oper.wp
        go_simp
        have hc := real_any A3 M3 c3 d3 n3 ms2 (by rw [PL.out.2]; omega) w' (by rw [PL.out.2]; exact HSL.out)
        rw [PL.out.2] at hc
        refine hc.mono ?_
        rintro e w2 ⟨M', d', rfl, hs, hd⟩
        exact ⟨_, rfl, Upd.of_below hd _, ⟨M', d', rfl, hs⟩⟩
      · obtain ⟨M', d', h1, h2⟩ : cpΦ (w3.heap.size) (w3.heap.size + 1) A3 M3 n3 c3 m3 d3 xs2 ms2 6 (a.tmps.getD 45 undef) w' := hD ⟨6, .data⟩ (by simp) rfl _ _ rfl rfl
        unfold Oper.wp
        go_simp
        exact ⟨_, rfl, Upd.refl _ _, ⟨M', d', rfl, h2⟩⟩
      · obtain ⟨g, h1, h2⟩ : cpΦ (w3.heap.size) (w3.heap.size + 1) A3 M3 n3 c3 m3 d3 xs2 ms2 4 (a.tmps.getD 43 undef) w' := hD ⟨4, .data⟩ (by simp) rfl _ _ rfl rfl
        obtain ⟨M', d', h3, hsl⟩ : cpΦ (w3.heap.size) (w3.heap.size + 1) A3 M3 n3 c3 m3 d3 xs2 ms2 7 (a.tmps.getD 46 undef) w' := hD ⟨7, .data⟩ (by simp) rfl _ _ rfl rfl
        rw [h1] at h2
        exact wp_append_fresh (.tmp 43) (.tmp 46) _ rfl (w3.heap.size + 1) 45 i0 (.agg #[.int .i64 0, .int .i64 0]) 2 16 Try.underlying23 hj hz0 hz1 hz2 rfl (by decide) g h1 h2 M' m3 d' (prs ms2) h3 hsl.nil (by rw [prs_len, PL.out.2]) hsl.holds (prs_one _) (by unfold maxLen; omega) (by omega) hbs (fun v' w2 ho hu => ⟨v', rfl, hu, ho⟩)
      · have h3 : cpΦ (w3.heap.size) (w3.heap.size + 1) A3 M3 n3 c3 m3 d3 xs2 ms2 3 (a.tmps.getD 42 undef) w' := hD ⟨3, .data⟩ (by simp) rfl _ _ rfl rfl
        have h8 : cpΦ (w3.heap.size) (w3.heap.size + 1) A3 M3 n3 c3 m3 d3 xs2 ms2 8 (a.tmps.getD 47 undef) w' := hD ⟨8, .data⟩ (by simp) rfl _ _ rfl rfl
        obtain ⟨v1, e1⟩ : ∃ v, a.tmps.getD 42 undef = v := ⟨_, rfl⟩
        obtain ⟨v2, e2⟩ : ∃ v, a.tmps.getD 47 undef = v := ⟨_, rfl⟩
        rw [e1] at h3
        rw [e2] at h8
        have H38 := Lib.hid (And.intro h3 h8)
        obtain ⟨A', c', rfl, _⟩ := Sl.of_own h3
        obtain ⟨M', d', rfl, _⟩ := Sl.of_own h8
        have e1' : a.tmps[42]?.getD undef = .slice A' n3 c' := by rw [← Array.getD_eq_getD_getElem?]; exact e1
        have e2' : a.tmps[47]?.getD undef = .slice M' m3 d' := by rw [← Array.getD_eq_getD_getElem?]; exact e2
        clear h3 h8 hD
        unfold Oper.wp
        go_simp
        exact ⟨_, rfl, Upd.refl _ _, ⟨_, _, rfl, H38.out.1, H38.out.2⟩⟩
      · unfold Oper.wp
        go_simp
        exact ⟨_, rfl, (Upd.refl _ _).alloc _, ⟨w'.heap.size, rfl, hbs, Blk.new _ _ _⟩⟩
    · intro o ho a w' hF hD
      have h9 : cpΦ (w3.heap.size) (w3.heap.size + 1) A3 M3 n3 c3 m3 d3 xs2 ms2 9 (a.tmps.getD 48 undef) w' := hD 9 _ _ rfl (by simp) rfl
      have h10 : cpΦ (w3.heap.size) (w3.heap.size + 1) A3 M3 n3 c3 m3 d3 xs2 ms2 10 (a.tmps.getD 13 undef) w' := hD 10 _ _ rfl (by simp) rfl
      obtain ⟨v1, v2, e9, o1, o2⟩ := h9
      obtain ⟨g3, e10, hg, hbg⟩ := h10
      have OO := Lib.hid (And.intro o1 o2)
      obtain ⟨A3x, c3x, rfl, s1, hA'⟩ := Sl.of_own o1
      obtain ⟨M3x, d3x, rfl, s2, hM'⟩ := Sl.of_own o2
      have hcg := hbg.cell
      have hfg := hbg.frz
      have hlg := hbg.lt
      have HGB := Lib.hid hbg
      have HF := Lib.hid hF
      have HU := Lib.hid (((Upd.refl (fun _ => False) (w3.alloc (.cells #[.slice A3 n3 c3, .slice M3 m3 d3] 31))).drew).trans hF.upd (fun _ h => h.elim))
      clear o1 o2 s1 s2 hbg hF hD hA' hM'
      simp at ho
      subst ho
      unfold Oper.wp
      go_simp
      rename_i hK1
      refine hK1 _ _ ?_
      clear hK1
      rw [HF.out.act [false, false, false, false, false, false, false, false, false, false, false, false, false, true, false, false, false, false, false, false, false, false, false, false, false, false, false, false, false, false, false, false, false, false, false, false, false, false, false, true, true, true, true, true, true, true, true, true, true, false, false, false, false, false, false, false, false, false, false, false, false, false, false, false, false, false, false, false] (by kernel_rfl)]
      simp only [pickv, Nat.reduceAdd, Nat.zero_add, e10]
      clear e10 e9 HF
      generalize a.tmps.getD 39 undef = u39
      generalize a.tmps.getD 40 undef = u40
      generalize a.tmps.getD 41 undef = u41
      generalize a.tmps.getD 42 undef = u42
      generalize a.tmps.getD 43 undef = u43
      generalize a.tmps.getD 44 undef = u44
      generalize a.tmps.getD 45 undef = u45
      generalize a.tmps.getD 46 undef = u46
      generalize a.tmps.getD 47 undef = u47
      generalize a.tmps.getD 48 undef = u48
      have QN3 : Hid (Blk ((w'.setCell ⟨g3, 0, none⟩ (.slice A3x n3 c3x)).setCell ⟨g3, 1, none⟩ (.slice M3x m3 d3x)) g3 25 #[.slice A3x n3 c3x, .slice M3x m3 d3x]) := Lib.hid ((HGB.out.set 0 _).set 1 _)
      have QA3 : Hid (Sl ((w'.setCell ⟨g3, 0, none⟩ (.slice A3x n3 c3x)).setCell ⟨g3, 1, none⟩ (.slice M3x m3 d3x)) A3x n3 c3x (nums xs2)) := Lib.hid (by
          obtain ⟨A2, c2, e, hs, _⟩ := Sl.of_own (own_far (p := ⟨g3, 1, none⟩) (own_far (p := ⟨g3, 0, none⟩) OO.out.1 (own_sep OO.out.1 HGB.out (by decide)) (.slice A3x n3 c3x)) (own_sep OO.out.1 HGB.out (by decide)) (.slice M3x m3 d3x))
          injection e with e1 e2 e3
          subst e1
          subst e3
          exact hs)
      have QM3 : Hid (Sl ((w'.setCell ⟨g3, 0, none⟩ (.slice A3x n3 c3x)).setCell ⟨g3, 1, none⟩ (.slice M3x m3 d3x)) M3x m3 d3x (prs ms2)) := Lib.hid (by
          obtain ⟨A2, c2, e, hs, _⟩ := Sl.of_own (own_far (p := ⟨g3, 1, none⟩) (own_far (p := ⟨g3, 0, none⟩) OO.out.2 (own_sep OO.out.2 HGB.out (by decide)) (.slice A3x n3 c3x)) (own_sep OO.out.2 HGB.out (by decide)) (.slice M3x m3 d3x))
          injection e with e1 e2 e3
          subst e1
          subst e3
          exact hs)
      have QU3 : Hid (Upd (fun _ => False) (w3.alloc (.cells #[.slice A3 n3 c3, .slice M3 m3 d3] 31)) ((w'.setCell ⟨g3, 0, none⟩ (.slice A3x n3 c3x)).setCell ⟨g3, 1, none⟩ (.slice M3x m3 d3x))) := Lib.hid ((HU.out.set (p := ⟨g3, 0, none⟩) (.inr (by rw [PS.out]; exact hg)) _).set (p := ⟨g3, 1, none⟩) (.inr (by rw [PS.out]; exact hg)) _)
      generalize ((w'.setCell ⟨g3, 0, none⟩ (.slice A3x n3 c3x)).setCell ⟨g3, 1, none⟩ (.slice M3x m3 d3x)) = V3 at QN3 QA3 QM3 QU3 ⊢
      clear OO HGB HU hcg hfg hlg hg
      have cy := (Y3.out.upd QU3.out (fun h => h)).cell
      have cb := (OB.out.upd QU3.out (fun h => h)).cell
      obtain ⟨xs4, ms4, ok4, hb⟩ : ∃ xs' ms' ok, badd xs ms p2 q2 9 = (xs', ms', ok) := ⟨_, _, _, rfl⟩
      have HB4 := Lib.hid hb
      clear hb
      go_wp2_with fail
      refine (add_to HB4.out OL.out.1 OL.out.2 rfl rfl (by omega) (by omega) _ (OA.out.upd0 QU3.out) (OM.out.upd0 QU3.out)).mono ?_
      rintro e w5 ⟨A4, c4, M4, d4, rfl, _, _, _, _, hd5⟩
      have T5 := Upd.of_below hd5 (fun _ => False)
      have U5 := QU3.out.trans T5 (fun _ h => h.elim)
      have R8 := Lib.hid (OB.out.upd U5 (fun h => h))
      have RA := Lib.hid (OA.out.upd0 U5)
      have RM := Lib.hid (OM.out.upd0 U5)
      have R10 := Lib.hid (N3.out.upd U5 (fun h => h))
      have SA := Lib.hid (NA3.out.upd0 U5)
      have SM := Lib.hid (NM3.out.upd0 U5)
      have R11 := Lib.hid (PB.out.upd U5 (fun h => h))
      have TA := Lib.hid (PA.out.upd0 U5)
      have TM := Lib.hid (PM.out.upd0 U5)
      have R13 := Lib.hid (QN3.out.upd T5 (fun h => h))
      have WA := Lib.hid (QA3.out.upd0 T5)
      have WM := Lib.hid (QM3.out.upd0 T5)
      have US5 := Lib.hid (US3.out.trans U5 (fun _ h => h.elim))
      clear hd5 T5 U5 cy cb OB OA OM N3 NA3 NM3 PB PA PM QN3 QA3 QM3 QU3 Y3 PS US3
      have b80 := R8.out.cell 0
      have b81 := R8.out.cell 1
      have b100 := R10.out.cell 0
      have b101 := R10.out.cell 1
      have b110 := R11.out.cell 0
      have b111 := R11.out.cell 1
      have b130 := R13.out.cell 0
      have b131 := R13.out.cell 1
      go_wp2_with fail
      go_region_held3 (fun w' => w'.cell? ⟨w1.heap.size, 0, none⟩ = some (.slice A n c) ∧ w'.cell? ⟨w1.heap.size, 1, none⟩ = some (.slice M m d) ∧ w'.cell? ⟨g1, 0, none⟩ = some (.slice A1x n c1x) ∧ w'.cell? ⟨g1, 1, none⟩ = some (.slice M1x m d1x) ∧ w'.cell? ⟨w3.heap.size, 0, none⟩ = some (.slice A3 n3 c3) ∧ w'.cell? ⟨w3.heap.size, 1, none⟩ = some (.slice M3 m3 d3) ∧ w'.cell? ⟨g3, 0, none⟩ = some (.slice A3x n3 c3x) ∧ w'.cell? ⟨g3, 1, none⟩ = some (.slice M3x m3 d3x)) (go_keep) (first | (go_at_call 17; refine (same_any A3 M8 A3x M3x n3 c3 m3 d8 c3x d3x xs2 ms2 PL.out.1 PL.out.2 (by omega) (by omega) _ TA_8.out K8.out WA_8.out WM_8.out).mono ?_; rintro e w9 ⟨rfl, hd⟩; have hu := Upd.of_below hd (fun _ => False); have H8_9 := Lib.hid ((H8_8.out).upd hu (fun h => h)); have H10_9 := Lib.hid ((H10_8.out).upd hu (fun h => h)); have H11_9 := Lib.hid ((H11_8.out).upd hu (fun h => h)); have H13_9 := Lib.hid ((H13_8.out).upd hu (fun h => h)); have RM_9 := Lib.hid ((RM_8.out).upd0 hu); have SA_9 := Lib.hid ((SA_8.out).upd0 hu); have SM_9 := Lib.hid ((SM_8.out).upd0 hu); have TM_9 := Lib.hid ((TM_8.out).upd0 hu); have WA_9 := Lib.hid ((WA_8.out).upd0 hu); have WM_9 := Lib.hid ((WM_8.out).upd0 hu); have RA_9 := Lib.hid ((RA_8.out).upd0 hu); have TA_9 := Lib.hid ((TA_8.out).upd0 hu); have HU_9 : Hid (Upd (fun _ => False) w w9) := Lib.hid ((HU_8.out).trans hu (fun _ h => h.elim)); have z8 := H8_9.out.cell 0; have y8 := H8_9.out.cell 1; have z10 := H10_9.out.cell 0; have y10 := H10_9.out.cell 1; have z11 := H11_9.out.cell 0; have y11 := H11_9.out.cell 1; have z13 := H13_9.out.cell 0; have y13 := H13_9.out.cell 1; clear hu hd) | (go_at_call 18; refine (real_to PL.out.2 (by omega) _ TM_7.out).mono ?_; rintro e w8 ⟨M8, d8, rfl, hs, hd⟩; have K8 := Lib.hid hs; have hu := Upd.of_below hd (fun _ => False); have H8_8 := Lib.hid ((H8_7.out).upd hu (fun h => h)); have H10_8 := Lib.hid ((H10_7.out).upd hu (fun h => h)); have H11_8 := Lib.hid ((H11_7.out).upd hu (fun h => h)); have H13_8 := Lib.hid ((H13_7.out).upd hu (fun h => h)); have RM_8 := Lib.hid ((RM_7.out).upd0 hu); have SA_8 := Lib.hid ((SA_7.out).upd0 hu); have SM_8 := Lib.hid ((SM_7.out).upd0 hu); have TM_8 := Lib.hid ((TM_7.out).upd0 hu); have WA_8 := Lib.hid ((WA_7.out).upd0 hu); have WM_8 := Lib.hid ((WM_7.out).upd0 hu); have RA_8 := Lib.hid ((RA_7.out).upd0 hu); have TA_8 := Lib.hid ((TA_7.out).upd0 hu); have HU_8 : Hid (Upd (fun _ => False) w w8) := Lib.hid ((HU_7.out).trans hu (fun _ h => h.elim)); have z8 := H8_8.out.cell 0; have y8 := H8_8.out.cell 1; have z10 := H10_8.out.cell 0; have y10 := H10_8.out.cell 1; have z11 := H11_8.out.cell 0; have y11 := H11_8.out.cell 1; have z13 := H13_8.out.cell 0; have y13 := H13_8.out.cell 1; clear hu hd; clear hs) | (go_at_call 17; refine (same_any A M6 A1x M1x n c m d6 c1x d1x xs ms OL.out.1 OL.out.2 (by omega) (by omega) _ RA_6.out K6.out SA_6.out SM_6.out).mono ?_; rintro e w7 ⟨rfl, hd⟩; have hu := Upd.of_below hd (fun _ => False); have H8_7 := Lib.hid ((H8_6.out).upd hu (fun h => h)); have H10_7 := Lib.hid ((H10_6.out).upd hu (fun h => h)); have H11_7 := Lib.hid ((H11_6.out).upd hu (fun h => h)); have H13_7 := Lib.hid ((H13_6.out).upd hu (fun h => h)); have RM_7 := Lib.hid ((RM_6.out).upd0 hu); have SA_7 := Lib.hid ((SA_6.out).upd0 hu); have SM_7 := Lib.hid ((SM_6.out).upd0 hu); have TM_7 := Lib.hid ((TM_6.out).upd0 hu); have WA_7 := Lib.hid ((WA_6.out).upd0 hu); have WM_7 := Lib.hid ((WM_6.out).upd0 hu); have RA_7 := Lib.hid ((RA_6.out).upd0 hu); have TA_7 := Lib.hid ((TA_6.out).upd0 hu); have HU_7 : Hid (Upd (fun _ => False) w w7) := Lib.hid ((HU_6.out).trans hu (fun _ h => h.elim)); have z8 := H8_7.out.cell 0; have y8 := H8_7.out.cell 1; have z10 := H10_7.out.cell 0; have y10 := H10_7.out.cell 1; have z11 := H11_7.out.cell 0; have y11 := H11_7.out.cell 1; have z13 := H13_7.out.cell 0; have y13 := H13_7.out.cell 1; clear hu hd) | (go_at_call 18; refine (real_to OL.out.2 (by omega) _ (RM.out.drew)).mono ?_; rintro e w6 ⟨M6, d6, rfl, hs, hd⟩; have K6 := Lib.hid hs; have hu := Upd.of_below hd (fun _ => False); have H8_6 := Lib.hid ((R8.out.drew).upd hu (fun h => h)); have H10_6 := Lib.hid ((R10.out.drew).upd hu (fun h => h)); have H11_6 := Lib.hid ((R11.out.drew).upd hu (fun h => h)); have H13_6 := Lib.hid ((R13.out.drew).upd hu (fun h => h)); have RM_6 := Lib.hid ((RM.out.drew).upd0 hu); have SA_6 := Lib.hid ((SA.out.drew).upd0 hu); have SM_6 := Lib.hid ((SM.out.drew).upd0 hu); have TM_6 := Lib.hid ((TM.out.drew).upd0 hu); have WA_6 := Lib.hid ((WA.out.drew).upd0 hu); have WM_6 := Lib.hid ((WM.out.drew).upd0 hu); have RA_6 := Lib.hid ((RA.out.drew).upd0 hu); have TA_6 := Lib.hid ((TA.out.drew).upd0 hu); have HU_6 : Hid (Upd (fun _ => False) w w6) := Lib.hid ((US5.out.drew).trans hu (fun _ h => h.elim)); have z8 := H8_6.out.cell 0; have y8 := H8_6.out.cell 1; have z10 := H10_6.out.cell 0; have y10 := H10_6.out.cell 1; have z11 := H11_6.out.cell 0; have y11 := H11_6.out.cell 1; have z13 := H13_6.out.cell 0; have y13 := H13_6.out.cell 1; clear hu hd; clear hs))
      go_wp2
      go_ret
      exact ⟨rfl, HU_9.out.below0⟩

theorem agg_prs {c : Array Value} (h : Oks [.int .i64, .int .i64] c.toList) : ∃ p q, c = #[.int .i64 p, .int .i64 q] := by
  obtain ⟨c⟩ := c
  obtain ⟨v0, r0, e0, ⟨x, rfl, _⟩, h1⟩ := h.cons
  obtain ⟨v1, r1, e1, ⟨y, rfl, _⟩, h2⟩ := h1.cons
  have e2 := h2.nil
  simp only at e0
  subst e0 e1 e2
  exact ⟨x, y, rfl⟩
theorem bapart_walk {w : World} (A0 : Option Addr) (len0 cap0 : Nat) (L0 : List (List Value)) (hL0 : L0.length = len0) (hlc0 : len0 ≤ cap0) (hm0 : cap0 ≤ maxLen) (hn0 : A0 = none → len0 = 0 ∧ cap0 = 0) (hok0 : ∀ row ∈ L0, Oks [.int .i64, .int .i64] row) (hr0 : Rows w A0 2 L0) (c1 : Array Value) (w1 : Oks [.int .i64, .int .i64] c1.toList) (c2 : Array Value) (w2 : Oks [.int .i64, .int .i64] c2.toList) :
    Calls Try.prog 7 #[.slice A0 len0 cap0, .agg c1, .agg c2] w fun e w' => e = .returned (.bool true) ∧ Below w.heap.size w w' := by
  obtain ⟨l, hl, _, hs⟩ := sl_prs hL0 hlc0 hm0 hn0 hok0 hr0
  unfold maxLen at hm0
  obtain ⟨p1, q1, rfl⟩ := agg_prs w1
  obtain ⟨p2, q2, rfl⟩ := agg_prs w2
  exact bapart_any A0 len0 cap0 l hl (by omega) p1 q1 p2 q2 w hs
end Go.Proofs.Ytdfnhbhcgkdplaa
