/- The document's Free. -/
import Derived.Test.YtkhdgdbbhbphiaaPr
import Derived.Test.YtkhdgdbbhbphiaaAp
import Derived.Test.YtkhdgdbbhbphiaaKp
import Derived.Deep.RegionHeld3
import Derived.Deep.AppendLies
import Derived.BigQuiet
import Derived.Deep.QuietTactic
import Derived.LoopTactic
import Derived.Deep.CutBlock
import Derived.Deep.CutRange
namespace Go.Proofs.Ytkhdgdbbhbphiaa
open Go.RowKit
set_option linter.unusedVariables false
set_option linter.unusedSimpArgs false
theorem rfree_take {l : List H2} {h x : H2} {k : Nat} (hx : l[k]? = some x) : rfree (l.take (k + 1)) h = if x = h then rfree (l.take k) h else rfree (l.take k) h ++ [x] := by
  unfold rfree
  rw [take_snoc hx, List.filter_append]
  by_cases hc : x = h <;> simp [hc]
set_option maxHeartbeats 1000000 in
theorem rfree_to {A : Option Addr} {n c : Nat} {l : List H2} {h : H2} (hl : l.length = n) (hn : n ≤ 1000) (w : World) (hs : Sl w A n c (prs l)) : Calls Try.prog 24 #[.slice A n c, hval h] w fun e w' => ∃ A' n' c', e = .returned (.tuple #[.slice A' n' c', .bool (decide (h ∈ l))]) ∧ (rfree l h).length = n' ∧ Sl w' A' n' c' (prs (rfree l h)) ∧ Upd (fun _ => False) w w' := by
  obtain ⟨w1, hw1⟩ : ∃ w1, w.alloc (.cells #[.int .i64 h.1, .int .i64 h.2] 24) = w1 := ⟨_, rfl⟩
  have HU1 : Hid (Upd (fun _ => False) w w1) := Lib.hid (hw1 ▸ (Upd.refl _ w).alloc _)
  have HBX : Hid (Blk w1 w.heap.size 24 #[.int .i64 h.1, .int .i64 h.2]) := Lib.hid (hw1 ▸ Blk.new w _ _)
  have HS0 := Lib.hid hs
  have HL := Lib.hid hl
  obtain ⟨i0_, hj, hz0, hz1, hz2⟩ := info_parts infoR
  clear hs hl
  go_enter Try.func24, Try.ntmps24
  go_wp2_with fail
  clear hw1
  go_loopw [6, 7] (fun ov iv wr => ∃ (k : Nat), k ≤ n ∧ iv = .int .i64 k ∧ Hid (wr.ownsRow w1.heap.size 24 2 ov (rfree (l.take k) h).length (prs (rfree (l.take k) h))) ∧ Hid (Upd (fun _ => False) w1 wr)) (fun _ iv _ => n - (intOf iv).toNat)
  case atStart => exact ⟨0, Nat.zero_le _, rfl, Lib.hid (by simpa [rfree, prs] using own_nil w1 w1.heap.size 24 2), Lib.hid (Upd.refl _ _)⟩
  case round =>
    obtain ⟨k, hk, rfl, HO, HU2⟩ := hrel
    have HUw := Lib.hid (HU1.out.trans HU2.out (fun _ h => h.elim))
    by_cases hkn : k < n
    · obtain ⟨x, hx⟩ : ∃ x, l[k]? = some x := ⟨l[k]'(by rw [HL.out]; exact hkn), List.getElem?_eq_getElem _⟩
      obtain ⟨b, o, rfl, hb, c0, c1⟩ := (HS0.out.upd0 HUw.out).pr hx
      have hbx := HBX.out.upd HU2.out (fun h => h)
      have b0_ : wr.cell? ⟨w.heap.size, 0, none⟩ = some (.int .i64 h.1) := hbx.cell 0
      have b1_ : wr.cell? ⟨w.heap.size, 1, none⟩ = some (.int .i64 h.2) := hbx.cell 1
      have bl := hbx.lt
      have i0 : (0 : Int) ≤ (k : Int) := Int.natCast_nonneg _
      have i1 : (k : Int) < (n : Int) := by omega
      have HT := Lib.hid (rfree_take (h := h) hx)
      have HLE : Hid ((rfree (l.take k) h).length ≤ 1000) := Lib.hid (by have h1 := List.length_filter_le (fun x => decide (x ≠ h)) (l.take k); rw [List.length_take] at h1; unfold rfree; omega)
      clear hx hbx
      have hgd := gdH
      obtain ⟨cc, hcc⟩ : ∃ cc, decide (x = h) = cc := ⟨_, rfl⟩
      have HC := Lib.hid hcc
      have heq1 := eqI x h
      rw [hcc] at heq1
      clear hcc
      cases cc with
      | true =>
        have HE : Hid (x = h) := Lib.hid (of_decide_eq_true HC.out)
        go_wp2_with fail
        go_quiet (fail)
        go_wp2
        go_roundw
        case rel => exact ⟨k + 1, by omega, by go_num, Lib.hid (by rw [HT.out, if_pos HE.out]; exact own_drewN HO.out _), Lib.hid (HU2.out.drewN _)⟩
        case measure => simp [intOf]; omega
      | false =>
        have HE : Hid (x ≠ h) := Lib.hid (of_decide_eq_false HC.out)
        go_wp2_with fail
        go_quiet (fail)
        have HU5 := Lib.hid (HU2.out.drewN nq)
        have HO5 := Lib.hid (own_drewN HO.out nq)
        replace c0 : (wr.drewN nq).cell? ⟨b, o + k * 2, none⟩ = some (.int .i64 x.1) := c0
        replace c1 : (wr.drewN nq).cell? ⟨b, o + k * 2 + 1, none⟩ = some (.int .i64 x.2) := c1
        clear b0_ b1_ bl heq1 hgd HO HU2 HUw
        generalize wr.drewN nq = w5 at *
        obtain ⟨v2, w6, hr2, ho2, hu2⟩ := run_append_sl (P := Try.prog) (w5.alloc (.cells #[.int .i64 x.1, .int .i64 x.2] 24)) w1.heap.size 33 33 24 i0_ (.agg #[.int .i64 0, .int .i64 0]) 2 16 Try.underlying33 hj hz0 hz1 hz2 rfl (by decide) u6 (rfree (l.take k) h).length (prs (rfree (l.take k) h)) (own_alloc HO5.out _) (some ⟨w5.heap.size, 0, none⟩) 1 1 [.int .i64 x.1, .int .i64 x.2] (Sl.one w5 _ _ _) (by simp) (prs_one [x]) (by have := HLE.out; unfold maxLen; omega) (by have := HLE.out; omega) (by have := HU5.out.size; simp; omega)
        have HO6 := Lib.hid ho2
        have HU6 : Hid (Upd (fun _ => False) w1 w6) := Lib.hid ((HU5.out.alloc _).trans hu2 (fun i hi => .inr (own_ge HO5.out hi)))
        clear ho2 hu2
        go_wp2_with (at_builtin; refine wpList_append_run _ rfl _ _ _ rfl rfl rfl hr2 ?_)
        go_roundw
        case rel => exact ⟨k + 1, by omega, by go_num, Lib.hid (by rw [HT.out, if_neg HE.out, prs_app, List.length_append]; exact HO6.out), HU6⟩
        case measure => simp [intOf]; omega
    · obtain rfl : k = n := by omega
      have HE : Hid (rfree (l.take k) h = rfree l h) := Lib.hid (by rw [List.take_of_length_le (by rw [HL.out]; exact Nat.le_refl _)])
      rw [HE.out] at HO
      obtain ⟨m, hm⟩ : ∃ m, (rfree l h).length = m := ⟨_, rfl⟩
      have hO := HO.out
      rw [hm] at hO
      obtain ⟨A3, c3, rfl, hs3, _⟩ := Sl.of_own hO
      have HS3 := Lib.hid hs3
      have HML := Lib.hid hm
      have HM : Hid (decide ((m : Int) < (k : Int)) = decide (h ∈ l)) := Lib.hid (by
        rw [← hm, ← HL.out]
        unfold rfree
        by_cases hc : h ∈ l
        · have : (l.filter (fun x => decide (x ≠ h))).length < l.length := List.length_filter_lt_length_iff_exists.2 ⟨h, hc, by simp⟩
          rw [decide_eq_true hc, decide_eq_true]
          omega
        · rw [List.filter_eq_self.2 (fun x hx => by simp only [decide_eq_true_eq]; rintro rfl; exact hc hx), decide_eq_false hc]
          simp)
      clear hs3 hO hm HO
      go_wp2
      exact bodyPost_ret (v := .tuple #[.slice A3 m c3, .bool (decide ((m : Int) < (k : Int)))]) (by simp [results, Try.results24, go_sem]) rfl ⟨A3, m, c3, by rw [HM.out], HML.out, HS3.out, HUw.out⟩
end Go.Proofs.Ytkhdgdbbhbphiaa
