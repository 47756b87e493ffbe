/- The document's Add: a batch with one more. -/
import Derived.Test.YtnpecnljibeddaaBa
import Derived.Test.YtnpecnljibeddaaInv
import Derived.Test.YtnpecnljibeddaaAp
import Derived.Test.YtnpecnljibeddaaOw
import Derived.Deep.AppendLies
import Derived.OwnWalk
namespace Go.Proofs.Ytnpecnljibeddaa
open Go.RowKit
set_option linter.unusedVariables false
set_option linter.unusedSimpArgs false

/-- The slices are the old ones, or new. -/
def RNew (w : World) (A' M' A M : Option Addr) (xs' xs : List Int) (ms' ms : List (Int × Int)) : Prop :=
  (A' = A ∧ M' = M ∧ xs' = xs ∧ ms' = ms) ∨ ((∀ b o, A' = some ⟨b, o, none⟩ → w.heap.size ≤ b) ∧ (∀ b o, M' = some ⟨b, o, none⟩ → w.heap.size ≤ b))
theorem infoRM : (Try.prog.info? 78).map (fun i => (i.zero, i.size, i.bytes)) = some (some (.agg #[.int .i64 0, .int .i64 0]), 2, 16) := by kernel_rfl
theorem infoI3 : (Try.prog.info? 3).map (fun i => (i.zero, i.size, i.bytes)) = some (some (.int .i64 0), 1, 8) := by kernel_rfl
theorem nums_one (xs : List Int) : ∀ u ∈ nums xs, u.oneCell' = true := by
  intro u hu
  obtain ⟨x, _, rfl⟩ := List.mem_map.1 hu
  rfl
theorem prs_one (ms : List (Int × Int)) : ∀ u ∈ prs ms, u.oneCell' = true := by
  intro u hu
  obtain ⟨x, _, hx⟩ := List.mem_flatMap.1 hu
  simp at hx
  rcases hx with rfl | rfl <;> rfl
/-- What each operation of Add's copy yields. -/
def raΦ (G base : Nat) (A M : Option Addr) (n c m d : Nat) (xs : List Int) (ms : List (Int × Int)) : Nat → Value → World → Prop
  | 0, v, w => ∃ g, v = .slice (some ⟨g, 0, none⟩) 0 0 ∧ w.ownsRow base 3 1 v 0 []
  | 1, v, w => v = .pointer (some ⟨G, 0, none⟩)
  | 2, v, w => v = .slice A n c
  | 3, v, w => w.ownsRow base 3 1 v n (nums xs)
  | 4, v, w => ∃ g, v = .slice (some ⟨g, 0, none⟩) 0 0 ∧ w.ownsRow base 78 2 v 0 []
  | 5, v, w => v = .pointer (some ⟨G, 1, none⟩)
  | 6, v, w => v = .slice M m d
  | 7, v, w => w.ownsRow base 78 2 v m (prs ms)
  | 8, v, w => ∃ v1 v2, v = .agg #[v1, v2] ∧ w.ownsRow base 3 1 v1 n (nums xs) ∧ w.ownsRow base 78 2 v2 m (prs ms)
  | 9, v, w => ∃ g, v = .pointer (some ⟨g, 0, none⟩) ∧ base ≤ g ∧ Blk w g 30 #[.slice none 0 0, .slice none 0 0]
  | _, _, _ => True
theorem raΦ_stab {G base : Nat} {A M : Option Addr} {n c m d : Nat} {xs : List Int} {ms : List (Int × Int)} : ∀ j v w w', raΦ G base A M n c m d xs ms j v w → Upd (fun _ => False) w w' → raΦ G base A M n c m d xs ms j v w' := by
  intro j v w w' h hu
  have ho : ∀ {e size v n xs}, w.ownsRow base e size v n xs → w'.ownsRow base e size v n xs := fun h => own_upd h hu (fun _ _ h => h)
  match j, h with
  | 0, ⟨g, h1, h2⟩ => exact ⟨g, h1, ho h2⟩
  | 1, h => exact h
  | 2, h => exact h
  | 3, h => exact ho h
  | 4, ⟨g, h1, h2⟩ => exact ⟨g, h1, ho h2⟩
  | 5, h => exact h
  | 6, h => exact h
  | 7, h => exact ho h
  | 8, ⟨v1, v2, h1, h2, h3⟩ => exact ⟨v1, v2, h1, ho h2, ho h3⟩
  | 9, ⟨g, h1, h2, h3⟩ => exact ⟨g, h1, h2, h3.upd hu (fun h => h)⟩
  | n + 10, _ => trivial
theorem at_to {A : Option Addr} {n cap : Nat} {xs : List Int} {a : Int} {r : Nat} (hn : xs.length = n) (hr : idx xs a = r) (w : World) (hs : Sl w A n cap (nums xs)) :
    Calls Try.prog 28 #[.slice A n cap, .int .i64 a] w fun e w' => e = .returned (.int .i64 r) ∧ w = w' := by
  subst hn hr
  exact at_any A cap xs a w hs

set_option maxRecDepth 100000 in
set_option maxHeartbeats 4000000 in
theorem radd_to {A M : Option Addr} {c d n m : Nat} {xs xs' : List Int} {ms ms' : List (Int × Int)} {id arg most : Int} {ok : Bool} (hb : badd xs ms id arg most = (xs', ms', ok)) (hn : xs.length = n) (hm : ms.length = m) (hn1 : n ≤ 1000) (hm1 : m ≤ 1000) (w : World) (ha : Sl w A n c (nums xs)) (hmm : Sl w M m d (prs ms)) :
    Calls Try.prog 26 #[.agg #[.slice A n c, .slice M m d], .int .i64 id, .int .i64 arg, .int .i64 most] w fun e w' => ∃ A' c' M' d',
      e = .returned (.tuple #[.agg #[.slice A' xs'.length c', .slice M' ms'.length d'], .bool ok]) ∧ Sl w' A' xs'.length c' (nums xs') ∧ Sl w' M' ms'.length d' (prs ms') ∧ RNew w A' M' A M xs' xs ms' ms ∧ Below w.heap.size w w' := by
  obtain ⟨i0, hj, hz0, hz1, hz2⟩ := info_parts infoRM
  obtain ⟨k0, kj, kz0, kz1, kz2⟩ := info_parts infoI3
  have HBD := Lib.hid hb
  have HA0 := Lib.hid ha
  have HM0 := Lib.hid hmm
  have PL := Lib.hid (And.intro hn hm)
  have PA : Hid (Sl ((w.alloc (.cells #[.slice A n c, .slice M m d] 30)).alloc (.cells #[.slice none 0 0, .slice none 0 0] 30)) A n c (nums xs)) := Lib.hid ((ha.alloc _).alloc _)
  have PM : Hid (Sl ((w.alloc (.cells #[.slice A n c, .slice M m d] 30)).alloc (.cells #[.slice none 0 0, .slice none 0 0] 30)) M m d (prs ms)) := Lib.hid ((hmm.alloc _).alloc _)
  have PB : Hid (Blk ((w.alloc (.cells #[.slice A n c, .slice M m d] 30)).alloc (.cells #[.slice none 0 0, .slice none 0 0] 30)) w.heap.size 30 #[.slice A n c, .slice M m d]) := Lib.hid ((Blk.new w _ _).alloc _)
  have PS : Hid (((w.alloc (.cells #[.slice A n c, .slice M m d] 30)).alloc (.cells #[.slice none 0 0, .slice none 0 0] 30)).heap.size = w.heap.size + 1 + 1) := Lib.hid (by simp)
  clear hb hn hm ha hmm
  go_enter Try.func26, Try.ntmps26
  go_wp2_with fail
  refine (at_to PL.out.1 rfl _ PA.out).mono ?_
  rintro e w' ⟨rfl, rfl⟩
  go_wp2_with fail
  refine wp_region_inv (by kernel_rfl) (by kernel_rfl) (raΦ w.heap.size (w.heap.size + 1 + 1) A M n c m d xs ms) raΦ_stab ?_ ?_
  · intro j o k ho hne hk a w' hF hD
    have hBB := (PB.out.drew).upd hF.upd (fun h => h)
    have b0 := hBB.cell 0
    have b1 := hBB.cell 1
    have e4 : a.tmps.getD 4 undef = .pointer (some ⟨w.heap.size, 0, none⟩) := hF.keep 4 (by kernel_rfl)
    have hbs : w.heap.size + 1 + 1 ≤ w'.heap.size := by have := hF.upd.size; simpa using this
    have hbs' : w.heap.size < w'.heap.size := hBB.lt
    have hj11 : j < 10 := by
      have := (Array.getElem?_eq_some_iff.1 ho).1
      simp at this hne
      omega
    rcases j with _ | _ | _ | _ | _ | _ | _ | _ | _ | _ | j
    all_goals (try (exfalso; omega))
    all_goals simp at ho
    all_goals subst ho
    all_goals simp at hk
    all_goals (try subst hk)
    · unfold Oper.wp
      go_simp
      exact ⟨_, rfl, (Upd.refl _ _).alloc _, ⟨w'.heap.size, rfl, own_empty (Blk.new _ _ _) hbs⟩⟩
    · unfold Oper.wp
      go_simp
      exact ⟨_, rfl, Upd.refl _ _, rfl⟩
    · have f1 : a.tmps.getD 17 undef = .pointer (some ⟨w.heap.size, 0, none⟩) := hD ⟨1, .data⟩ (by simp) rfl _ _ rfl rfl
      unfold Oper.wp
      go_simp
      exact ⟨_, rfl, Upd.refl _ _, rfl⟩
    · obtain ⟨g, h1, h2⟩ : raΦ w.heap.size (w.heap.size + 1 + 1) A M n c m d xs ms 0 (a.tmps.getD 16 undef) w' := hD ⟨0, .data⟩ (by simp) rfl _ _ rfl rfl
      have f2 : a.tmps.getD 18 undef = .slice A n c := hD ⟨2, .data⟩ (by simp) rfl _ _ rfl rfl
      rw [h1] at h2
      have hsl := PA.out.drew.upd0 hF.upd
      exact wp_append_fresh (.tmp 16) (.tmp 18) _ rfl (w.heap.size + 1 + 1) 3 k0 (.int .i64 0) 1 8 Try.underlying27 kj kz0 kz1 kz2 rfl (by decide) g h1 h2 A n c (nums xs) f2 hsl.nil (by rw [nums_len, PL.out.1]; omega) hsl.holds (nums_one _) (by unfold maxLen; omega) (by omega) hbs (fun v' w2 ho hu => ⟨v', rfl, hu, ho⟩)
    · unfold Oper.wp
      go_simp
      exact ⟨_, rfl, (Upd.refl _ _).alloc _, ⟨w'.heap.size, rfl, own_empty (Blk.new _ _ _) hbs⟩⟩
    · unfold Oper.wp
      go_simp
      exact ⟨_, rfl, Upd.refl _ _, rfl⟩
    · have f5 : a.tmps.getD 21 undef = .pointer (some ⟨w.heap.size, 1, none⟩) := hD ⟨5, .data⟩ (by simp) rfl _ _ rfl rfl
      unfold Oper.wp
      go_simp
      exact ⟨_, rfl, Upd.refl _ _, rfl⟩
    · obtain ⟨g, h1, h2⟩ : raΦ w.heap.size (w.heap.size + 1 + 1) A M n c m d xs ms 4 (a.tmps.getD 20 undef) w' := hD ⟨4, .data⟩ (by simp) rfl _ _ rfl rfl
      have f6 : a.tmps.getD 22 undef = .slice M m d := hD ⟨6, .data⟩ (by simp) rfl _ _ rfl rfl
      rw [h1] at h2
      have hsl := PM.out.drew.upd0 hF.upd
      exact wp_append_fresh (.tmp 20) (.tmp 22) _ rfl (w.heap.size + 1 + 1) 78 i0 (.agg #[.int .i64 0, .int .i64 0]) 2 16 Try.underlying28 hj hz0 hz1 hz2 rfl (by decide) g h1 h2 M m d (prs ms) f6 hsl.nil (by rw [prs_len, PL.out.2]) hsl.holds (prs_one _) (by unfold maxLen; omega) (by omega) hbs (fun v' w2 ho hu => ⟨v', rfl, hu, ho⟩)
    · have h3 : raΦ w.heap.size (w.heap.size + 1 + 1) A M n c m d xs ms 3 (a.tmps.getD 19 undef) w' := hD ⟨3, .data⟩ (by simp) rfl _ _ rfl rfl
      have h8 : raΦ w.heap.size (w.heap.size + 1 + 1) A M n c m d xs ms 7 (a.tmps.getD 23 undef) w' := hD ⟨7, .data⟩ (by simp) rfl _ _ rfl rfl
      obtain ⟨v1, e1⟩ : ∃ v, a.tmps.getD 19 undef = v := ⟨_, rfl⟩
      obtain ⟨v2, e2⟩ : ∃ v, a.tmps.getD 23 undef = v := ⟨_, rfl⟩
      rw [e1] at h3
      rw [e2] at h8
      have H38 := Lib.hid (And.intro h3 h8)
      obtain ⟨A', c', rfl, _⟩ := Sl.of_own h3
      obtain ⟨M', d', rfl, _⟩ := Sl.of_own h8
      have e1' : a.tmps[19]?.getD undef = .slice A' n c' := by rw [← Array.getD_eq_getD_getElem?]; exact e1
      have e2' : a.tmps[23]?.getD undef = .slice M' m d' := by rw [← Array.getD_eq_getD_getElem?]; exact e2
      clear h3 h8 hD
      unfold Oper.wp
      go_simp
      exact ⟨_, rfl, Upd.refl _ _, ⟨_, _, rfl, H38.out.1, H38.out.2⟩⟩
    · unfold Oper.wp
      go_simp
      exact ⟨_, rfl, (Upd.refl _ _).alloc _, ⟨w'.heap.size, rfl, hbs, Blk.new _ _ _⟩⟩
  · intro o ho a w' hF hD
    have h9 : raΦ w.heap.size (w.heap.size + 1 + 1) A M n c m d xs ms 8 (a.tmps.getD 24 undef) w' := hD 8 _ _ rfl (by simp) rfl
    have h10 : raΦ w.heap.size (w.heap.size + 1 + 1) A M n c m d xs ms 9 (a.tmps.getD 11 undef) w' := hD 9 _ _ rfl (by simp) rfl
    obtain ⟨v1, v2, e9, o1, o2⟩ := h9
    obtain ⟨g, e10, hg, hbg⟩ := h10
    have OO := Lib.hid (And.intro o1 o2)
    obtain ⟨A1, c1, rfl, s1, hA'⟩ := Sl.of_own o1
    obtain ⟨M1, d1, rfl, s2, hM'⟩ := Sl.of_own o2
    have hcg := hbg.cell
    have hfg := hbg.frz
    have hlg := hbg.lt
    have HGB := Lib.hid hbg
    have HF := Lib.hid hF
    have HU := Lib.hid (((Upd.refl (fun _ => False) ((w.alloc (.cells #[.slice A n c, .slice M m d] 30)).alloc (.cells #[.slice none 0 0, .slice none 0 0] 30))).drew).trans hF.upd (fun _ h => h.elim))
    clear o1 o2 s1 s2 hbg hF hD hA' hM'
    simp at ho
    subst ho
    unfold Oper.wp
    go_simp
    rename_i hK1
    refine hK1 _ _ ?_
    clear hK1
    rw [HF.out.act [false, false, false, false, false, false, false, false, false, false, false, true, false, false, false, false, true, true, true, true, true, true, true, true, true, false, false, false, false, false, false, false, false, false, false, false, false, false, false, false, false, false, false, false, false, false, false, false, false, false, false] (by kernel_rfl)]
    simp only [pickv, Nat.reduceAdd, Nat.zero_add, e10]
    clear e10 e9 HF
    generalize a.tmps.getD 16 undef = u16
    generalize a.tmps.getD 17 undef = u17
    generalize a.tmps.getD 18 undef = u18
    generalize a.tmps.getD 19 undef = u19
    generalize a.tmps.getD 20 undef = u20
    generalize a.tmps.getD 21 undef = u21
    generalize a.tmps.getD 22 undef = u22
    generalize a.tmps.getD 23 undef = u23
    generalize a.tmps.getD 24 undef = u24
    have QN : Hid (Blk ((w'.setCell ⟨g, 0, none⟩ (.slice A1 n c1)).setCell ⟨g, 1, none⟩ (.slice M1 m d1)) g 30 #[.slice A1 n c1, .slice M1 m d1]) := Lib.hid ((HGB.out.set 0 _).set 1 _)
    have QA : Hid (((w'.setCell ⟨g, 0, none⟩ (.slice A1 n c1)).setCell ⟨g, 1, none⟩ (.slice M1 m d1)).ownsRow (w.heap.size + 1 + 1) 3 1 (.slice A1 n c1) n (nums xs)) := Lib.hid (own_far (p := ⟨g, 1, none⟩) (own_far (p := ⟨g, 0, none⟩) OO.out.1 (own_sep OO.out.1 HGB.out (by decide)) (.slice A1 n c1)) (own_sep OO.out.1 HGB.out (by decide)) (.slice M1 m d1))
    have QM : Hid (((w'.setCell ⟨g, 0, none⟩ (.slice A1 n c1)).setCell ⟨g, 1, none⟩ (.slice M1 m d1)).ownsRow (w.heap.size + 1 + 1) 78 2 (.slice M1 m d1) m (prs ms)) := Lib.hid (own_far (p := ⟨g, 1, none⟩) (own_far (p := ⟨g, 0, none⟩) OO.out.2 (own_sep OO.out.2 HGB.out (by decide)) (.slice A1 n c1)) (own_sep OO.out.2 HGB.out (by decide)) (.slice M1 m d1))
    have QU : Hid (Upd (fun _ => False) ((w.alloc (.cells #[.slice A n c, .slice M m d] 30)).alloc (.cells #[.slice none 0 0, .slice none 0 0] 30)) ((w'.setCell ⟨g, 0, none⟩ (.slice A1 n c1)).setCell ⟨g, 1, none⟩ (.slice M1 m d1))) := Lib.hid ((HU.out.set (p := ⟨g, 0, none⟩) (.inr (by rw [PS.out]; exact hg)) _).set (p := ⟨g, 1, none⟩) (.inr (by rw [PS.out]; exact hg)) _)
    generalize ((w'.setCell ⟨g, 0, none⟩ (.slice A1 n c1)).setCell ⟨g, 1, none⟩ (.slice M1 m d1)) = V at QN QA QM QU ⊢
    have GG := Lib.hid hg
    clear OO HGB HU hcg hfg hlg
    have PZ : Hid (Blk ((w.alloc (.cells #[.slice A n c, .slice M m d] 30)).alloc (.cells #[.slice none 0 0, .slice none 0 0] 30)) (w.heap.size + 1) 30 #[.slice none 0 0, .slice none 0 0]) := Lib.hid (Blk.new1 w _ _ _)
    have RB := Lib.hid (PB.out.upd QU.out (fun h => h))
    have RZ := Lib.hid (PZ.out.upd QU.out (fun h => h))
    have RA := Lib.hid (PA.out.upd0 QU.out)
    have RM := Lib.hid (PM.out.upd0 QU.out)
    have UW : Hid (Upd (fun _ => False) w V) := Lib.hid (((Upd.refl (fun _ => False) w).alloc _).alloc _ |>.trans QU.out (fun _ h => h.elim))
    have cb := RB.out.cell
    have cz := RZ.out.cell
    have fz := RZ.out.frz
    have lz := RZ.out.lt
    clear PA PM PB PZ QU
    by_cases h1 : idx xs arg < n
    · have hne : ¬ (idx xs arg : Int) = (n : Int) := by omega
      have HE : Hid (xs' = xs ∧ ms' = ms ++ [(id, (idx xs arg : Int))] ∧ ok = true) := Lib.hid (by have h := HBD.out; unfold badd at h; rw [if_pos (by rw [PL.out.1]; exact h1)] at h; simp only [Prod.mk.injEq] at h; exact ⟨h.1.symm, h.2.1.symm, h.2.2.symm⟩)
      obtain ⟨rfl, rfl, rfl⟩ := HE.out
      have cn := QN.out.cell
      have fn := QN.out.frz
      have ln := QN.out.lt
      have hgg := GG.out
      go_wp2_with (at_builtin; go_loud (refine wpList_append_lies _ rfl _ _ 28 rfl (w.heap.size + 1 + 1) 78 i0 (.agg #[.int .i64 0, .int .i64 0]) 2 16 Try.underlying28 hj hz0 hz1 hz2 rfl (by decide) (.slice M1 m d1) m (prs ms) rfl (QM.out.alloc _) ⟨V.heap.size, 0, none⟩ 1 1 [.int .i64 id, .int .i64 (idx xs' arg : Int)] rfl rfl (Blk.new V #[.int .i64 id, .int .i64 (idx xs' arg : Int)] 78).news ?c5 (by omega) ?c7 ?c8 ?c9 (V.heap.size + 1) (by simp) ?_); (case c5 => intro u hu; simp at hu; rcases hu with rfl | rfl <;> rfl); (case c7 => unfold maxLen; omega); (case c8 => omega); (case c9 => simp; omega); intro gg2 cp w6 hown6 hgrow hat hlt6; have hu6 := Upd.of_grown hgrow; have N6 := Lib.hid ((QN.out.alloc (.cells #[.int .i64 id, .int .i64 (idx xs' arg : Int)] 78)).upd hu6 (own_sep QM.out QN.out (by decide))); have A6 := Lib.hid (own_upd (QA.out.alloc (.cells #[.int .i64 id, .int .i64 (idx xs' arg : Int)] 78)) hu6 (own_apart QA.out QM.out (by decide))); have Z6 := Lib.hid ((RZ.out.alloc (.cells #[.int .i64 id, .int .i64 (idx xs' arg : Int)] 78)).upd hu6 (own_ne QM.out (Nat.lt_succ_self _))); have U6 : Hid (Upd (fun _ => False) w w6) := Lib.hid ((UW.out.alloc _).trans hu6 (fun i h => .inr (Nat.le_trans (Nat.le_trans (Nat.le_succ _) (Nat.le_succ _)) (own_ge QM.out h)))); have M6 : Hid (w6.ownsRow (w.heap.size + 1 + 1) 78 2 (.slice (some ⟨gg2, 0, none⟩) (m + 1) cp) (m + 1) (prs (ms ++ [(id, (idx xs' arg : Int))]))) := Lib.hid (by rw [prs_app]; exact hown6); have c6 := N6.out.cell; have f6 := N6.out.frz; have l6 := N6.out.lt; have cz6 := Z6.out.cell; have fz6 := Z6.out.frz; have lz6 := Z6.out.lt; have hgz : g ≠ w.heap.size + 1 := (by omega); clear hown6 hgrow hat hu6 cn fn ln cz fz lz cb)
      have FU : Hid (Upd (fun _ => False) w (((w6.setCell ⟨g, 1, none⟩ (.slice (some ⟨gg2, 0, none⟩) (m + 1) cp)).setCell ⟨w.heap.size + 1, 0, none⟩ (.slice A1 n c1)).setCell ⟨w.heap.size + 1, 1, none⟩ (.slice (some ⟨gg2, 0, none⟩) (m + 1) cp))) := Lib.hid (((U6.out.set (p := ⟨g, 1, none⟩) (.inr (show w.heap.size ≤ g by omega)) _).set (p := ⟨w.heap.size + 1, 0, none⟩) (.inr (Nat.le_succ _)) _).set (p := ⟨w.heap.size + 1, 1, none⟩) (.inr (Nat.le_succ _)) _)
      have HAb := Lib.hid (fun b (e : (Value.slice A1 n c1).ownBlock = some b) => own_ge A6.out e)
      have HMb := Lib.hid (fun b (e : (Value.slice (some ⟨gg2, 0, none⟩) (m + 1) cp).ownBlock = some b) => own_ge M6.out e)
      refine bodyPost_ret (v := .tuple #[.agg #[.slice A1 n c1, .slice (some ⟨gg2, 0, none⟩) (m + 1) cp], .bool true]) (by simp [results, Try.results26, go_sem, cz6, lz6]) rfl ⟨A1, c1, some ⟨gg2, 0, none⟩, cp, by rw [PL.out.1]; simp [PL.out.2], ?_, ?_, .inr ⟨fun b o e => Nat.le_trans (Nat.le_trans (Nat.le_succ _) (Nat.le_succ _)) (HAb.out b (by rw [e]; rfl)), fun b o e => Nat.le_trans (Nat.le_trans (Nat.le_succ _) (Nat.le_succ _)) (HMb.out b (by injection e with e; injection e with e; rw [← e]; rfl))⟩, FU.out.below0⟩
      · obtain ⟨A2, c2, e, hs, _⟩ := Sl.of_own (ownsRow_setCell_below (ownsRow_setCell_below (own_far (p := ⟨g, 1, none⟩) A6.out (own_sep A6.out N6.out (by decide)) (.slice (some ⟨gg2, 0, none⟩) (m + 1) cp)) (a := ⟨w.heap.size + 1, 0, none⟩) (Nat.lt_succ_self _) (.slice A1 n c1)) (a := ⟨w.heap.size + 1, 1, none⟩) (Nat.lt_succ_self _) (.slice (some ⟨gg2, 0, none⟩) (m + 1) cp))
        injection e with e1 e2 e3
        subst e1
        subst e3
        rw [PL.out.1]
        exact hs
      · obtain ⟨A2, c2, e, hs, _⟩ := Sl.of_own (ownsRow_setCell_below (ownsRow_setCell_below (own_far (p := ⟨g, 1, none⟩) M6.out (own_sep M6.out N6.out (by decide)) (.slice (some ⟨gg2, 0, none⟩) (m + 1) cp)) (a := ⟨w.heap.size + 1, 0, none⟩) (Nat.lt_succ_self _) (.slice A1 n c1)) (a := ⟨w.heap.size + 1, 1, none⟩) (Nat.lt_succ_self _) (.slice (some ⟨gg2, 0, none⟩) (m + 1) cp))
        injection e with e1 e2 e3
        subst e1
        subst e3
        simp only [List.length_append, List.length_cons, List.length_nil, PL.out.2, Nat.zero_add]
        exact hs
    · have hie : idx xs arg = n := by have := idx_le xs arg; have := PL.out.1; omega
      by_cases h2 : most ≤ (n : Int)
      · have HE : Hid (xs' = xs ∧ ms' = ms ∧ ok = false) := Lib.hid (by have h := HBD.out; unfold badd at h; rw [if_neg (by rw [PL.out.1]; exact h1), if_pos (by rw [PL.out.1]; exact h2)] at h; simp only [Prod.mk.injEq] at h; exact ⟨h.1.symm, h.2.1.symm, h.2.2.symm⟩)
        obtain ⟨rfl, rfl, rfl⟩ := HE.out
        rw [hie]
        have hge : (n : Int) ≥ most := h2
        go_wp2
        refine bodyPost_ret (v := .tuple #[.agg #[.slice A n c, .slice M m d], .bool false]) (by simp [results, Try.results26, go_sem, cz, lz]) rfl ⟨A, c, M, d, by rw [PL.out.1, PL.out.2], ?_, ?_, .inl ⟨rfl, rfl, rfl, rfl⟩, ?_⟩
        · rw [PL.out.1]; exact HA0.out.upd0 ((UW.out.set (p := ⟨w.heap.size + 1, 0, none⟩) (.inr (Nat.le_succ _)) _).set (p := ⟨w.heap.size + 1, 1, none⟩) (.inr (Nat.le_succ _)) _)
        · rw [PL.out.2]; exact HM0.out.upd0 ((UW.out.set (p := ⟨w.heap.size + 1, 0, none⟩) (.inr (Nat.le_succ _)) _).set (p := ⟨w.heap.size + 1, 1, none⟩) (.inr (Nat.le_succ _)) _)
        · exact ((UW.out.set (p := ⟨w.heap.size + 1, 0, none⟩) (.inr (Nat.le_succ _)) _).set (p := ⟨w.heap.size + 1, 1, none⟩) (.inr (Nat.le_succ _)) _).below0
      · have hne : idx xs arg = n := hie
        have HE : Hid (xs' = xs ++ [arg] ∧ ms' = ms ++ [(id, (n : Int))] ∧ ok = true) := Lib.hid (by have h := HBD.out; unfold badd at h; rw [if_neg (by rw [PL.out.1]; exact h1), if_neg (by rw [PL.out.1]; exact h2)] at h; simp only [Prod.mk.injEq] at h; exact ⟨h.1.symm, by rw [← h.2.1, PL.out.1], h.2.2.symm⟩)
        obtain ⟨e1, e2, rfl⟩ := HE.out
        rw [hie]
        have HX1 := Lib.hid e1
        have HX2 := Lib.hid e2
        have hge : ¬ (n : Int) ≥ most := h2
        have cn := QN.out.cell
        have fn := QN.out.frz
        have ln := QN.out.lt
        have hgg := GG.out
        clear e1 e2 hne
        have tok1 : True := trivial
        have tok2 : True := trivial
        go_wp2_with (first | (at_builtin; have _t := tok1; refine wpList_append_lies _ rfl _ _ 27 rfl (w.heap.size + 1 + 1) 3 k0 (.int .i64 0) 1 8 Try.underlying27 kj kz0 kz1 kz2 rfl (by decide) (.slice A1 n c1) n (nums xs) rfl (QA.out.alloc _) ⟨V.heap.size, 0, none⟩ 1 1 [.int .i64 arg] rfl rfl (Blk.new V #[.int .i64 arg] 3).news ?c5 (by omega) ?c7 ?c8 ?c9 (V.heap.size + 1) (by simp) ?_; (case c5 => intro u hu; simp at hu; subst hu; rfl); (case c7 => unfold maxLen; omega); (case c8 => omega); (case c9 => simp; omega); intro gg1 cp1 w6 hown6 hgrow hat hlt6; have hu6 := Upd.of_grown hgrow; have N6 := Lib.hid (((QN.out.alloc (.cells #[.int .i64 arg] 3)).upd hu6 (own_sep QA.out QN.out (by decide))).set 0 (.slice (some ⟨gg1, 0, none⟩) (n + 1) cp1)); have N60 := Lib.hid ((QN.out.alloc (.cells #[.int .i64 arg] 3)).upd hu6 (own_sep QA.out QN.out (by decide))); have M6 := Lib.hid (own_upd (QM.out.alloc (.cells #[.int .i64 arg] 3)) hu6 (own_apart QM.out QA.out (by decide))); have Z6 := Lib.hid ((RZ.out.alloc (.cells #[.int .i64 arg] 3)).upd hu6 (own_ne QA.out (Nat.lt_succ_self _))); have U6 : Hid (Upd (fun _ => False) w w6) := Lib.hid ((UW.out.alloc _).trans hu6 (fun i h => .inr (Nat.le_trans (Nat.le_trans (Nat.le_succ _) (Nat.le_succ _)) (own_ge QA.out h)))); have A6 : Hid (w6.ownsRow (w.heap.size + 1 + 1) 3 1 (.slice (some ⟨gg1, 0, none⟩) (n + 1) cp1) (n + 1) (nums (xs ++ [arg]))) := Lib.hid (by rw [nums_app]; exact hown6); have c6 := N60.out.cell; have f6 := N60.out.frz; have l6 := N60.out.lt; clear hown6 hgrow hat hu6 cn fn ln cz fz lz cb; clear tok1) | (at_builtin; have _t := tok2; refine wpList_append_lies _ rfl _ _ 28 rfl (w.heap.size + 1 + 1) 78 i0 (.agg #[.int .i64 0, .int .i64 0]) 2 16 Try.underlying28 hj hz0 hz1 hz2 rfl (by decide) (.slice M1 m d1) m (prs ms) rfl (own_alloc (own_far (p := ⟨g, 0, none⟩) M6.out (own_sep M6.out N60.out (by decide)) (.slice (some ⟨gg1, 0, none⟩) (n + 1) cp1)) _) ⟨w6.heap.size, 0, none⟩ 1 1 [.int .i64 id, .int .i64 (n : Int)] rfl rfl ?c4 ?d5 (by omega) ?d7 ?d8 ?d9 (w6.heap.size + 1) (by simp) ?_; (case c4 => exact (Blk.newS w6 ⟨g, 0, none⟩ _ #[.int .i64 id, .int .i64 (n : Int)] 78).news); (case d5 => intro u hu; simp at hu; rcases hu with rfl | rfl <;> rfl); (case d7 => unfold maxLen; omega); (case d8 => omega); (case d9 => have := Z6.out.lt; simp; omega); intro gg2 cp w7 hown7 hgrow hat hlt7; have hu7 := Upd.of_grown hgrow; have N7 := Lib.hid ((N6.out.alloc (.cells #[.int .i64 id, .int .i64 (n : Int)] 78)).upd hu7 (own_sep (own_alloc (own_far (p := ⟨g, 0, none⟩) M6.out (own_sep M6.out N60.out (by decide)) (.slice (some ⟨gg1, 0, none⟩) (n + 1) cp1)) (.cells #[.int .i64 id, .int .i64 (n : Int)] 78)) (N6.out.alloc (.cells #[.int .i64 id, .int .i64 (n : Int)] 78)) (by decide))); have A7 := Lib.hid (own_upd (own_alloc (own_far (p := ⟨g, 0, none⟩) A6.out (own_sep A6.out N60.out (by decide)) (.slice (some ⟨gg1, 0, none⟩) (n + 1) cp1)) (.cells #[.int .i64 id, .int .i64 (n : Int)] 78)) hu7 (own_apart (own_alloc (own_far (p := ⟨g, 0, none⟩) A6.out (own_sep A6.out N60.out (by decide)) (.slice (some ⟨gg1, 0, none⟩) (n + 1) cp1)) (.cells #[.int .i64 id, .int .i64 (n : Int)] 78)) (own_alloc (own_far (p := ⟨g, 0, none⟩) M6.out (own_sep M6.out N60.out (by decide)) (.slice (some ⟨gg1, 0, none⟩) (n + 1) cp1)) (.cells #[.int .i64 id, .int .i64 (n : Int)] 78)) (by decide))); have Z7 := Lib.hid (((Z6.out.far (p := ⟨g, 0, none⟩) (show w.heap.size + 1 ≠ g by omega) (.slice (some ⟨gg1, 0, none⟩) (n + 1) cp1)).alloc (.cells #[.int .i64 id, .int .i64 (n : Int)] 78)).upd hu7 (own_ne (own_alloc (own_far (p := ⟨g, 0, none⟩) M6.out (own_sep M6.out N60.out (by decide)) (.slice (some ⟨gg1, 0, none⟩) (n + 1) cp1)) (.cells #[.int .i64 id, .int .i64 (n : Int)] 78)) (Nat.lt_succ_self _))); have U7 : Hid (Upd (fun _ => False) w w7) := Lib.hid (((U6.out.set (p := ⟨g, 0, none⟩) (.inr (show w.heap.size ≤ g by omega)) (.slice (some ⟨gg1, 0, none⟩) (n + 1) cp1)).alloc (.cells #[.int .i64 id, .int .i64 (n : Int)] 78)).trans hu7 (fun i h => .inr (Nat.le_trans (Nat.le_trans (Nat.le_succ _) (Nat.le_succ _)) (own_ge (own_alloc (own_far (p := ⟨g, 0, none⟩) M6.out (own_sep M6.out N60.out (by decide)) (.slice (some ⟨gg1, 0, none⟩) (n + 1) cp1)) (.cells #[.int .i64 id, .int .i64 (n : Int)] 78)) h)))); have M7 : Hid (w7.ownsRow (w.heap.size + 1 + 1) 78 2 (.slice (some ⟨gg2, 0, none⟩) (m + 1) cp) (m + 1) (prs (ms ++ [(id, (n : Int))]))) := Lib.hid (by rw [prs_app]; exact hown7); have c7 := N7.out.cell; have f7 := N7.out.frz; have l7 := N7.out.lt; have cz7 := Z7.out.cell; have fz7 := Z7.out.frz; have lz7 := Z7.out.lt; have hgz : g ≠ w.heap.size + 1 := (by omega); clear hown7 hgrow hat hu7 c6 f6 l6 tok2))
        have FU : Hid (Upd (fun _ => False) w (((w7.setCell ⟨g, 1, none⟩ (.slice (some ⟨gg2, 0, none⟩) (m + 1) cp)).setCell ⟨w.heap.size + 1, 0, none⟩ (.slice (some ⟨gg1, 0, none⟩) (n + 1) cp1)).setCell ⟨w.heap.size + 1, 1, none⟩ (.slice (some ⟨gg2, 0, none⟩) (m + 1) cp))) := Lib.hid (((U7.out.set (p := ⟨g, 1, none⟩) (.inr (show w.heap.size ≤ g by omega)) _).set (p := ⟨w.heap.size + 1, 0, none⟩) (.inr (Nat.le_succ _)) _).set (p := ⟨w.heap.size + 1, 1, none⟩) (.inr (Nat.le_succ _)) _)
        have HAb := Lib.hid (fun b (e : (Value.slice (some ⟨gg1, 0, none⟩) (n + 1) cp1).ownBlock = some b) => own_ge A7.out e)
        have HMb := Lib.hid (fun b (e : (Value.slice (some ⟨gg2, 0, none⟩) (m + 1) cp).ownBlock = some b) => own_ge M7.out e)
        refine bodyPost_ret (v := .tuple #[.agg #[.slice (some ⟨gg1, 0, none⟩) (n + 1) cp1, .slice (some ⟨gg2, 0, none⟩) (m + 1) cp], .bool true]) (by simp [results, Try.results26, go_sem, cz7, lz7]) rfl ⟨some ⟨gg1, 0, none⟩, cp1, some ⟨gg2, 0, none⟩, cp, by rw [HX1.out, HX2.out]; simp [PL.out.1, PL.out.2], ?_, ?_, .inr ⟨fun b o e => Nat.le_trans (Nat.le_trans (Nat.le_succ _) (Nat.le_succ _)) (HAb.out b (by injection e with e; injection e with e; rw [← e]; rfl)), fun b o e => Nat.le_trans (Nat.le_trans (Nat.le_succ _) (Nat.le_succ _)) (HMb.out b (by injection e with e; injection e with e; rw [← e]; rfl))⟩, FU.out.below0⟩
        · obtain ⟨A2, c2, e, hs, _⟩ := Sl.of_own (ownsRow_setCell_below (ownsRow_setCell_below (own_far (p := ⟨g, 1, none⟩) A7.out (own_sep A7.out N7.out (by decide)) (.slice (some ⟨gg2, 0, none⟩) (m + 1) cp)) (a := ⟨w.heap.size + 1, 0, none⟩) (Nat.lt_succ_self _) (.slice (some ⟨gg1, 0, none⟩) (n + 1) cp1)) (a := ⟨w.heap.size + 1, 1, none⟩) (Nat.lt_succ_self _) (.slice (some ⟨gg2, 0, none⟩) (m + 1) cp))
          injection e with e1 e2 e3
          subst e1
          subst e3
          rw [HX1.out]
          simp only [List.length_append, List.length_cons, List.length_nil, PL.out.1, Nat.zero_add]
          exact hs
        · obtain ⟨A2, c2, e, hs, _⟩ := Sl.of_own (ownsRow_setCell_below (ownsRow_setCell_below (own_far (p := ⟨g, 1, none⟩) M7.out (own_sep M7.out N7.out (by decide)) (.slice (some ⟨gg2, 0, none⟩) (m + 1) cp)) (a := ⟨w.heap.size + 1, 0, none⟩) (Nat.lt_succ_self _) (.slice (some ⟨gg1, 0, none⟩) (n + 1) cp1)) (a := ⟨w.heap.size + 1, 1, none⟩) (Nat.lt_succ_self _) (.slice (some ⟨gg2, 0, none⟩) (m + 1) cp))
          injection e with e1 e2 e3
          subst e1
          subst e3
          rw [HX2.out]
          simp only [List.length_append, List.length_cons, List.length_nil, PL.out.2, Nat.zero_add]
          exact hs
theorem radd_n {A M : Option Addr} {c d n m n' m' : Nat} {xs xs' : List Int} {ms ms' : List (Int × Int)} {id arg most : Int} {ok : Bool} (hb : badd xs ms id arg most = (xs', ms', ok)) (hn : xs.length = n) (hm : ms.length = m) (hn' : xs'.length = n') (hm' : ms'.length = m') (hn1 : n ≤ 1000) (hm1 : m ≤ 1000) (w : World) (ha : Sl w A n c (nums xs)) (hmm : Sl w M m d (prs ms)) :
    Calls Try.prog 26 #[.agg #[.slice A n c, .slice M m d], .int .i64 id, .int .i64 arg, .int .i64 most] w fun e w' => ∃ A' c' M' d',
      e = .returned (.tuple #[.agg #[.slice A' n' c', .slice M' m' d'], .bool ok]) ∧ Sl w' A' n' c' (nums xs') ∧ Sl w' M' m' d' (prs ms') ∧ RNew w A' M' A M xs' xs ms' ms ∧ Below w.heap.size w w' := by
  subst hn' hm'
  exact radd_to hb hn hm hn1 hm1 w ha hmm
end Go.Proofs.Ytnpecnljibeddaa
