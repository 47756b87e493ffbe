/- BatchSplit's walk. -/
import Derived.Test.YtdfnhbhcgkdplaaPw
import Derived.Test.YtdfnhbhcgkdplaaSa
namespace Go.Proofs.Ytdfnhbhcgkdplaa
open Go.RowKit
set_option linter.unusedVariables false
set_option linter.unusedSimpArgs false

set_option maxHeartbeats 2000000 in
theorem bsplit_any (L : Option Addr) (len cap : Nat) (l : List (Int × Int)) (hl : l.length = len) (hm : len ≤ 9223372036854775807) (V : Option Addr) (vlen q : Nat) (vals : List Int) (hv : vals.length = vlen) (hvm : vlen ≤ 9223372036854775807) (w : World) (hs : Sl w L len cap (prs l)) (hsv : Sl w V vlen q (nums vals)) :
    Calls Try.prog 6 #[.slice L len cap, .slice V vlen q] w fun e w' => e = .returned (.bool true) ∧ Below w.heap.size w w' := by
  have HL := Lib.hid hl
  have HV := Lib.hid hv
  have HS := Lib.hid hs
  have HSV := Lib.hid hsv
  clear hl hv hs hsv
  go_enter Try.func6, Try.ntmps6
  go_wp2_with fail
  refine (awake_any _).mono ?_
  rintro e w0 ⟨rfl, hd0⟩
  have HU0 := Lib.hid (Upd.of_below hd0 (fun _ => False))
  clear hd0
  by_cases h60 : 60 < vlen
  · have hg : (60 : Int) < (vlen : Int) := by omega
    go_wp2
    go_ret
    exact ⟨rfl, HU0.out.below0⟩
  · have hg : ¬ (60 : Int) < (vlen : Int) := by omega
    go_wp2_with fail
    refine (all_any L len cap l HL.out hm 4 _ (HS.out.upd0 HU0.out)).mono ?_
    rintro e w1 ⟨A, c, M, d, T, tc, n, m, t, rfl, ha, hb, ht, hn, hmm, htt, hd⟩
    have HA := Lib.hid ha
    have HB := Lib.hid hb
    have HN := Lib.hid hn
    have HM := Lib.hid hmm
    have HU1 := Lib.hid (HU0.out.trans (Upd.of_below hd (fun _ => False)) (fun _ h => h.elim))
    have HK := Lib.hid (ball_le 4 l)
    clear ha hb ht hn hmm htt hd
    go_wp2_with fail
    have hc := split_any A M V c d q n (ball 4 l).2.1 vals (by have := HK.out.1; rw [HN.out] at this; omega) (by have := HK.out.2.1; omega) (w1.alloc (.cells #[.slice A n c, .slice M m d] 31)) (by rw [HM.out]; exact HB.out.alloc _) (by rw [HV.out]; exact (HSV.out.upd0 HU1.out).alloc _)
    rw [HM.out, HV.out] at hc
    refine hc.mono ?_
    clear hc
    rintro e w2 (⟨p, P, pc, hvn, hps, rfl, hsp, hd⟩ | ⟨hor, rfl, hd⟩)
    · have bb := (Blk.new w1 #[.slice A n c, .slice M m d] 31).upd (Upd.of_below hd (fun _ => False)) (fun h => h)
      have cb := bb.cell
      have HU2 := Lib.hid ((HU1.out.alloc _).trans (Upd.of_below hd (fun _ => False)) (fun _ h => h.elim))
      have hpl : p.length = m := (psplit_len hps).trans HM.out
      have hvn' : vlen = n := HV.out.symm.trans hvn
      subst hpl
      subst hvn'
      clear hps hsp hd hvn bb
      go_wp2
      go_ret
      exact ⟨rfl, HU2.out.below0⟩
    · have bb := (Blk.new w1 #[.slice A n c, .slice M m d] 31).upd (Upd.of_below hd (fun _ => False)) (fun h => h)
      have cb := bb.cell
      have HU2 := Lib.hid ((HU1.out.alloc _).trans (Upd.of_below hd (fun _ => False)) (fun _ h => h.elim))
      have hne : ¬ vlen = n := by
        rcases hor with h | h
        · rw [HV.out] at h; exact h
        · intro he
          obtain ⟨p, hp⟩ := ball_split 4 l (vals := vals) (by rw [HV.out, HN.out]; exact he)
          rw [hp] at h
          cases h
      have hb : ((vlen : Int) == (n : Int)) = false := by simpa using (by omega : ¬ (vlen : Int) = n)
      clear hor hd bb
      go_wp2
      go_ret
      exact ⟨rfl, HU2.out.below0⟩

theorem bsplit_walk {w : World} (A0 : Option Addr) (len0 cap0 : Nat) (L0 : List (List Value)) (hL0 : L0.length = len0) (hlc0 : len0 ≤ cap0) (hm0 : cap0 ≤ maxLen) (hn0 : A0 = none → len0 = 0 ∧ cap0 = 0) (hok0 : ∀ row ∈ L0, Oks [.int .i64, .int .i64] row) (hr0 : Rows w A0 2 L0)
    (A1 : Option Addr) (len1 cap1 : Nat) (L1 : List (List Value)) (hL1 : L1.length = len1) (hlc1 : len1 ≤ cap1) (hm1 : cap1 ≤ maxLen) (hn1 : A1 = none → len1 = 0 ∧ cap1 = 0) (hok1 : ∀ row ∈ L1, Oks [.int .i64] row) (hr1 : Rows w A1 1 L1) :
    Calls Try.prog 6 #[.slice A0 len0 cap0, .slice A1 len1 cap1] w fun e w' => e = .returned (.bool true) ∧ Below w.heap.size w w' := by
  obtain ⟨l, hl, _, hs⟩ := sl_prs hL0 hlc0 hm0 hn0 hok0 hr0
  obtain ⟨v, hv, _, hsv⟩ := sl_nums hL1 hlc1 hm1 hn1 hok1 hr1
  unfold maxLen at hm0 hm1
  exact bsplit_any A0 len0 cap0 l hl (by omega) A1 len1 cap1 v hv (by omega) w hs hsv
end Go.Proofs.Ytdfnhbhcgkdplaa
