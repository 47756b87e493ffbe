/- The law's real; the document's Same; the document's list and the program's set. -/
import Derived.Test.YtkhdgdbbhbphiaaPz
import Derived.Test.YtkhdgdbbhbphiaaPw
namespace Go.Proofs.Ytkhdgdbbhbphiaa
open Go.RowKit
set_option linter.unusedVariables false
set_option linter.unusedSimpArgs false

set_option maxHeartbeats 1000000 in
theorem real_to {A : Option Addr} {n c : Nat} {l : List H2} (hl : l.length = n) (hn : n ≤ 1000) (w : World) (hs : Sl w A n c (prs l)) : Calls Try.prog 16 #[.slice A n c] w fun e w' => ∃ A' c', e = .returned (.slice A' n c') ∧ Sl w' A' n c' (prs l) ∧ Upd (fun _ => False) w w' := by
  have HS0 := Lib.hid hs
  have HL := Lib.hid hl
  obtain ⟨i0_, hj, hz0, hz1, hz2⟩ := info_parts infoR
  clear hs hl
  go_enter Try.func16, Try.ntmps16
  go_wp2_with fail
  go_loopw [3, 4] (fun ov iv wr => ∃ (k : Nat), k ≤ n ∧ iv = .int .i64 k ∧ Hid (wr.ownsRow w.heap.size 24 2 ov k (prs (l.take k))) ∧ Hid (Upd (fun _ => False) w wr)) (fun _ iv _ => n - (intOf iv).toNat)
  case atStart => exact ⟨0, Nat.zero_le _, rfl, Lib.hid (by simpa [prs] using own_nil w w.heap.size 24 2), Lib.hid (Upd.refl _ _)⟩
  case round =>
    obtain ⟨k, hk, rfl, HO, HU⟩ := hrel
    by_cases hkn : k < n
    · obtain ⟨x, hx⟩ : ∃ x, l[k]? = some x := ⟨l[k]'(by rw [HL.out]; exact hkn), List.getElem?_eq_getElem _⟩
      obtain ⟨b, o, rfl, hb, c0, c1⟩ := (HS0.out.upd0 HU.out).pr hx
      have i0 : (0 : Int) ≤ (k : Int) := Int.natCast_nonneg _
      have i1 : (k : Int) < (n : Int) := by omega
      have HT := Lib.hid (take_snoc hx)
      clear hx
      obtain ⟨v2, w6, hr2, ho2, hu2⟩ := run_append_sl (P := Try.prog) (wr.drew.alloc (.cells #[.int .i64 x.1, .int .i64 x.2] 24)) w.heap.size 33 33 24 i0_ (.agg #[.int .i64 0, .int .i64 0]) 2 16 Try.underlying33 hj hz0 hz1 hz2 rfl (by decide) u3 k (prs (l.take k)) (own_alloc (own_drew HO.out) _) (some ⟨wr.drew.heap.size, 0, none⟩) 1 1 [.int .i64 x.1, .int .i64 x.2] (Sl.one wr.drew _ _ _) (by simp) (prs_one [x]) (by unfold maxLen; omega) (by omega) (by have := HU.out.size; simp; omega)
      have HO6 : Hid (w6.ownsRow w.heap.size 24 2 v2 (k + 1) (prs (l.take (k + 1)))) := Lib.hid (by rw [HT.out, prs_app]; exact ho2)
      have HU6 : Hid (Upd (fun _ => False) w w6) := Lib.hid ((HU.out.drew.alloc _).trans hu2 (fun i hi => .inr (own_ge HO.out hi)))
      clear ho2 hu2
      go_wp2_with fail
      go_region_law (refine step_append_run rfl _ _ _ rfl rfl rfl hr2 ?_)
      all_goals
        go_wp2
        go_roundw
        case rel => exact ⟨k + 1, by omega, by go_num, HO6, HU6⟩
        case measure => simp [intOf]; omega
    · obtain rfl : k = n := by omega
      have hO := HO.out
      rw [List.take_of_length_le (by rw [HL.out]; exact Nat.le_refl _)] at hO
      obtain ⟨A3, c3, rfl, hs3, _⟩ := Sl.of_own hO
      have HS3 := Lib.hid hs3
      clear hs3 hO HO
      go_wp2
      go_ret
      exact ⟨A3, c3, rfl, HS3.out, HU.out⟩
set_option maxHeartbeats 1000000 in
theorem same_to {A B : Option Addr} {n c d : Nat} {l : List H2} (hl : l.length = n) (hn : n ≤ 1000) (w : World) (ha : Sl w A n c (prs l)) (hb : Sl w B n d (prs l)) : Calls Try.prog 15 #[.slice A n c, .slice B n d] w fun e w' => e = .returned (.bool true) ∧ Upd (fun _ => False) w w' := by
  have HA := Lib.hid ha
  have HB := Lib.hid hb
  have HL := Lib.hid hl
  clear ha hb hl
  go_enter Try.func15, Try.ntmps15
  go_wp2_with fail
  go_loopw [5] (fun iv wr => ∃ (k : Nat), k ≤ n ∧ iv = .int .i64 k ∧ Hid (Upd (fun _ => False) w wr)) (fun iv _ => n - (intOf iv).toNat)
  case atStart => exact ⟨0, Nat.zero_le _, rfl, Lib.hid (Upd.refl _ _)⟩
  case round =>
    obtain ⟨k, hk, rfl, HU⟩ := hrel
    by_cases hkn : k < n
    · obtain ⟨x, hx⟩ : ∃ x, l[k]? = some x := ⟨l[k]'(by rw [HL.out]; exact hkn), List.getElem?_eq_getElem _⟩
      obtain ⟨b1, o1, rfl, hb1, c0, c1⟩ := (HA.out.upd0 HU.out).pr hx
      obtain ⟨b2, o2, rfl, hb2, d0, d1⟩ := (HB.out.upd0 HU.out).pr hx
      have i0 : (0 : Int) ≤ (k : Int) := Int.natCast_nonneg _
      have i1 : (k : Int) < (n : Int) := by omega
      have heq := eqI x x
      simp only [decide_true] at heq
      have hgd := gdH
      clear hx
      go_wp2_with fail
      go_quiet (fail)
      go_wp2
      go_roundw
      case rel => exact ⟨k + 1, by omega, by go_num, Lib.hid (HU.out.drewN _)⟩
      case measure => simp [intOf]; omega
    · obtain rfl : k = n := by omega
      go_wp2
      go_ret
      exact ⟨rfl, HU.out⟩
/-- The document's list is the program's set, rising. -/
def Rel (hs x : List H2) : Prop := x.Perm hs ∧ Rising x
theorem rless_trans {a b c : H2} (h1 : rless a b = true) (h2 : rless b c = true) : rless a c = true := by
  simp only [rless, Bool.or_eq_true, Bool.and_eq_true, decide_eq_true_eq] at *
  omega
theorem rless_irrefl (a : H2) : rless a a = false := by simp [rless]
theorem rising_eq {l l' : List H2} (h : l.Perm l') (h1 : Rising l) (h2 : Rising l') : l = l' :=
  List.Perm.eq_of_pairwise (le := fun a b => rless a b = true) (fun a b _ _ h3 h4 => absurd (rless_trans h3 h4) (by rw [rless_irrefl]; simp)) h1 h2 h
theorem rising_nodup {l : List H2} (h : Rising l) : l.Nodup := h.imp (fun {a b} h e => by subst e; rw [rless_irrefl] at h; cases h)
theorem Rel.zero : Rel [] [] := ⟨.refl _, List.Pairwise.nil⟩
/-- All that are ahead are less; those behind are not. -/
theorem rat_spec : ∀ {l : List H2} {h : H2}, Rising l → h ∉ l → (∀ a ∈ l.take (rat l h), rless a h = true) ∧ (∀ a ∈ l.drop (rat l h), rless h a = true)
  | [], h, _, _ => ⟨fun a ha => by simp at ha, fun a ha => by simp at ha⟩
  | x :: l, h, hr, hn => by
    obtain ⟨hx, hr'⟩ := List.pairwise_cons.1 hr
    have hne : x ≠ h := fun e => hn (by simp [e])
    have hn' : h ∉ l := fun e => hn (by simp [e])
    obtain ⟨i1, i2⟩ := rat_spec hr' hn'
    unfold rat
    by_cases hc : rless x h = true
    · rw [if_pos hc]
      refine ⟨fun a ha => ?_, fun a ha => i2 a (by simpa using ha)⟩
      simp only [List.take_succ_cons, List.mem_cons] at ha
      rcases ha with rfl | ha
      · exact hc
      · exact i1 a ha
    · rw [if_neg hc]
      have hlt : rless h x = true := rless_total (Ne.symm hne) (by simpa using hc)
      refine ⟨fun a ha => by simp at ha, fun a ha => ?_⟩
      simp only [List.drop_zero, List.mem_cons] at ha
      rcases ha with rfl | ha
      · exact hlt
      · exact rless_trans hlt (hx a ha)
theorem Rel.take {hs x : List H2} (hr : Rel hs x) (most : Int) (h : H2) : ptakes most hs h = rtakes x most h ∧ Rel (ptake most hs h) (rtake x most h) := by
  obtain ⟨hp, hri⟩ := hr
  have hm : decide (h ∈ hs) = decide (h ∈ x) := decide_eq_decide.2 hp.mem_iff.symm
  have e : ptakes most hs h = rtakes x most h := by
    unfold ptakes rtakes
    rw [hm, hp.length_eq]
    by_cases h1 : (hs.length : Int) < most
    · rw [decide_eq_true h1, decide_eq_false (show ¬ most ≤ (hs.length : Int) by omega)]; simp
    · rw [decide_eq_false h1, decide_eq_true (show most ≤ (hs.length : Int) by omega)]; simp
  refine ⟨e, ?_⟩
  unfold ptake rtake
  rw [e]
  split
  · rename_i hc
    have hnx : h ∉ x := by
      unfold rtakes at hc
      simp at hc
      exact hc.2
    have hnh : h ∉ hs := fun hh => hnx (hp.mem_iff.2 hh)
    obtain ⟨i1, i2⟩ := rat_spec hri hnx
    refine ⟨?_, ?_⟩
    · unfold hput
      rw [show hs.filter (fun z => decide (z ≠ h)) = hs from hwo_none hnh]
      refine List.perm_middle.trans (.cons _ ?_)
      rw [List.take_append_drop]
      exact hp
    · have hsplit : Rising (x.take (rat x h) ++ x.drop (rat x h)) := by rw [List.take_append_drop]; exact hri
      obtain ⟨p1, p2, p3⟩ := List.pairwise_append.1 hsplit
      refine List.pairwise_append.2 ⟨p1, List.pairwise_cons.2 ⟨i2, p2⟩, fun a ha b hb => ?_⟩
      rcases List.mem_cons.1 hb with rfl | hb
      · exact i1 a ha
      · exact p3 a ha b hb
  · exact ⟨hp, hri⟩
theorem Rel.free {hs x : List H2} (hr : Rel hs x) (h : H2) : decide (h ∈ hs) = decide (h ∈ x) ∧ Rel (hwo hs h) (rfree x h) :=
  ⟨decide_eq_decide.2 hr.1.mem_iff.symm, hr.1.filter _, hr.2.sublist List.filter_sublist⟩
theorem Rel.deed {hs x : List H2} (hr : Rel hs x) (most kd : Int) (h : H2) : pans most hs kd h = rans x most kd h ∧ Rel (pdo most hs kd h) (rdo x most kd h) := by
  unfold pans rans pdo rdo
  split
  · exact hr.take most h
  · exact hr.free h
end Go.Proofs.Ytkhdgdbbhbphiaa
