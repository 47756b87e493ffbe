/- BatchOwn's walk. -/
import Derived.Test.YtdfnhbhcgkdplaaPw
import Derived.Test.YtdfnhbhcgkdplaaSa
import Derived.IntWalk
namespace Go.Proofs.Ytdfnhbhcgkdplaa
open Go.RowKit
set_option linter.unusedVariables false
set_option linter.unusedSimpArgs false

theorem psplit_get {vals : List Int} : ∀ {ms l : List (Int × Int)}, psplit vals ms = some l → ∀ (i : Nat) m, ms[i]? = some m → ∃ x, vat vals m.2 = some x ∧ l[i]? = some (m.1, x)
  | [], l, h, i, m, hm => by simp at hm
  | p :: ms, l, h, i, m, hm => by
    unfold psplit at h
    split at h
    · cases h
    · rename_i x hx
      obtain ⟨l', h', rfl⟩ := Option.map_eq_some_iff.1 h
      cases i with
      | zero => simp at hm; subst hm; exact ⟨x, hx, rfl⟩
      | succ i =>
        obtain ⟨y, h1, h2⟩ := psplit_get h' i m (by simpa using hm)
        exact ⟨y, h1, by simpa using h2⟩
/-- The law's value of an argument. -/
def fv (x : Int) : Int := wrap64 (1000 - x)
theorem told {s : BS} (h : BI s) {l : List (Int × Int)} (hp : psplit (s.1.map fv) s.2.1 = some l) {i : Nat} {x : Int × Int} (hx : s.2.2[i]? = some x) : l[i]? = some (x.1, fv x.2) := by
  have hlt : i < s.2.1.length := by have := (List.getElem?_eq_some_iff.1 hx).1; have := h.ln; omega
  have hm : s.2.1[i]? = some s.2.1[i] := List.getElem?_eq_getElem hlt
  obtain ⟨h1, h2, h3⟩ := h.pl i _ _ hm hx
  obtain ⟨y, h4, h5⟩ := psplit_get hp i _ hm
  rw [h5, h1]
  unfold vat at h4
  rw [if_pos h2, List.getElem?_map, h3] at h4
  simp at h4
  rw [h4]
theorem most_of {a : Int} (h0 : 0 ≤ a) (h1 : a ≤ 255) : 1 ≤ wrap64 (1 + wrap64 (a.tmod 6)) ∧ wrap64 (1 + wrap64 (a.tmod 6)) ≤ 6 := by
  rw [Int.tmod_eq_emod_of_nonneg h0]
  unfold wrap64
  omega
theorem infoI2 : (Try.prog.info? 3).map (fun i => (i.zero, i.size, i.bytes)) = some (some (.int .i64 0), 1, 8) := by kernel_rfl

set_option maxHeartbeats 4000000 in
theorem bown_any (L : Option Addr) (len cap : Nat) (l : List (Int × Int)) (hl : l.length = len) (hm : len ≤ 9223372036854775807) (a : Int) (h0 : 0 ≤ a) (h1 : a ≤ 255) (w : World) (hs : Sl w L len cap (prs l)) :
    Calls Try.prog 4 #[.slice L len cap, .int .u8 a] w fun e w' => e = .returned (.bool true) ∧ Below w.heap.size w w' := by
  have HS := Lib.hid hs
  have HL := Lib.hid hl
  have HMO := Lib.hid (most_of h0 h1)
  obtain ⟨i0, hj, hz0, hz1, hz2⟩ := info_parts infoI2
  clear hs hl h0 h1
  go_enter Try.func4, Try.ntmps4
  go_wp2_with fail
  refine (awake_any _).mono ?_
  rintro e w0 ⟨rfl, hd0⟩
  have HU0 := Lib.hid (Upd.of_below hd0 (fun _ => False))
  clear hd0
  go_wp2_with fail
  generalize hmo : wrap64 (1 + wrap64 (a.tmod 6)) = mo
  rw [hmo] at HMO
  refine (all_any _ len cap l HL.out hm _ _ (HS.out.upd0 HU0.out)).mono ?_
  rintro e w1 ⟨A, c, M, d, T, tc, n, m, t, rfl, ha, hb, ht, hn, hmm, htt, hd⟩
  have HU1 := Lib.hid (HU0.out.trans (Upd.of_below hd (fun _ => False)) (fun _ h => h.elim))
  obtain ⟨hk1, hk2, hk3⟩ := ball_le mo l
  have hk4 := ball_most HMO.out.1 l
  have HI := Lib.hid (ball_inv mo l)
  have HSP := Lib.hid (fun vals h => ball_split mo l (vals := vals) h)
  rw [hn] at hk1 hk4
  rw [hmm] at hk2
  rw [htt] at hk3
  obtain ⟨⟨xs, ms, tk⟩, hball⟩ : ∃ s, s = ball mo l := ⟨_, rfl⟩
  rw [← hball] at ha hb ht hn hmm htt HI HSP
  simp only at ha hb ht hn hmm htt HSP
  have HA := Lib.hid (ha.alloc (.cells #[.slice A n c, .slice M m d] 31))
  have HB := Lib.hid (hb.alloc (.cells #[.slice A n c, .slice M m d] 31))
  have HT := Lib.hid (ht.alloc (.cells #[.slice A n c, .slice M m d] 31))
  have HBB := Lib.hid (Blk.new w1 #[.slice A n c, .slice M m d] 31)
  have HN := Lib.hid hn
  have HM := Lib.hid hmm
  have HTT := Lib.hid htt
  have HU1' := Lib.hid (HU1.out.alloc (.cells #[.slice A n c, .slice M m d] 31))
  have hs1 : (w1.alloc (.cells #[.slice A n c, .slice M m d] 31)).heap.size = w1.heap.size + 1 := by simp
  have HS1 := Lib.hid hs1
  clear ha hb ht hn hmm htt hd hball hmo HS HU0 HU1 hs1
  go_wp2_with fail
  go_loopw [9, 10, 11] (fun vv i kv wr => ∃ (k : Nat) (V : Option Addr) (vc : Nat), k ≤ n ∧ vv = .slice V k vc ∧ i = .int .i64 k ∧ Hid (wr.ownsRow (w1.heap.size + 1) 3 1 (.slice V k vc) k (nums ((xs.take k).map fv))) ∧ w1.heap.size + 1 ≤ wr.heap.size ∧ Hid (Upd (fun _ => False) (w1.alloc (.cells #[.slice A n c, .slice M m d] 31)) wr)) (fun _ i _ _ => n - (intOf i).toNat)
  case atStart =>
    exact ⟨0, none, 0, Nat.zero_le _, rfl, rfl, Lib.hid (own_nil _ _ _ _), by simp, Lib.hid (Upd.refl _ _)⟩
  case round =>
    obtain ⟨k, V, vc, hk, rfl, rfl, hown, hsz, hu⟩ := hrel
    have HSZ := Lib.hid hsz
    have cb := (HBB.out.upd hu.out (fun h => h)).cell
    have y0 := cb 0
    have y1 := cb 1
    clear cb
    by_cases hlt : k < n
    · obtain ⟨x, hx⟩ : ∃ x, xs[k]? = some x := ⟨xs[k]'(by rw [HN.out]; exact hlt), List.getElem?_eq_getElem _⟩
      obtain ⟨ab, ao, rfl, hab, a0⟩ := (HA.out.upd0 hu.out).num hx
      have i0' : (0 : Int) ≤ (k : Int) := Int.natCast_nonneg _
      have i1' : (k : Int) < (n : Int) := by omega
      have HX := Lib.hid hx
      clear hx
      go_wp2_with (at_builtin; go_loud (refine wpList_append_lies _ rfl _ _ 22 rfl (w1.heap.size + 1) 3 i0 (.int .i64 0) 1 8 Try.underlying22 hj hz0 hz1 hz2 rfl (by decide) (.slice V k vc) k (nums ((xs.take k).map fv)) rfl (hown.out.alloc _) ⟨wr.heap.size, 0, none⟩ 1 1 [.int .i64 (fv x)] rfl rfl (Blk.new wr #[.int .i64 (fv x)] 3).news ?c5 (by omega) ?c7 ?c8 ?c9 (wr.heap.size + 1) (by simp) ?_); (case c5 => intro u hu; simp at hu; subst hu; rfl); (case c7 => unfold maxLen; omega); (case c8 => omega); (case c9 => simp; omega); intro gg2 cp w6 hown6 hgrow hat hlt6; have hu6 := Upd.of_grown hgrow; have hs6 : wr.heap.size ≤ w6.heap.size := (by have := hu6.size; simp at this; omega); have OB : Hid (w6.ownsRow (w1.heap.size + 1) 3 1 (.slice (some ⟨gg2, 0, none⟩) (k + 1) cp) (k + 1) (nums ((xs.take (k + 1)).map fv))) := Lib.hid (by rw [take_snoc HX.out, List.map_append, nums_app]; exact hown6); have UB : Hid (Upd (fun _ => False) (w1.alloc (.cells #[.slice (some ⟨ab, ao, none⟩) n c, .slice M m d] 31)) w6) := Lib.hid ((hu.out.alloc _).trans hu6 (fun i h => .inr (by have := own_ge hown.out h; simp; omega))); clear hown6 hgrow hat hu6)
      have HS6 := Lib.hid (Nat.le_trans HSZ.out hs6)
      go_loopw [11] (fun kv wr2 => ∃ (j : Nat), j ≤ k ∧ kv = .int .i64 j ∧ Hid (Upd (fun _ => False) w6 wr2)) (fun kv _ => k - (intOf kv).toNat)
      case atStart => exact ⟨0, Nat.zero_le _, rfl, Lib.hid (Upd.refl _ _)⟩
      case round =>
        obtain ⟨j, hjk, rfl, hu2⟩ := hrel
        have HU2 := Lib.hid (UB.out.trans hu2.out (fun _ h => h.elim))
        have cb2 := (HBB.out.upd HU2.out (fun h => h)).cell
        have y2 := cb2 0
        clear cb2
        by_cases hlt2 : j < k
        · obtain ⟨x2, hx2⟩ : ∃ x, xs[j]? = some x := ⟨xs[j]'(by rw [HN.out]; omega), List.getElem?_eq_getElem _⟩
          obtain ⟨ab', ao', e, _, a2⟩ := (HA.out.upd0 HU2.out).num hx2
          obtain ⟨ab2, ao2, e2, _, a3⟩ := (HA.out.upd0 HU2.out).num HX.out
          injection e with e
          injection e with e3 e4
          subst e3
          subst e4
          injection e2 with e2
          injection e2 with e3 e4
          subst e3
          subst e4
          have hne : ¬ x = x2 := fun h => by
            have := HI.out.nd k j x HX.out (by rw [h]; exact hx2)
            omega
          have hb' : (x == x2) = false := by simpa using hne
          have j0 : (0 : Int) ≤ (j : Int) := Int.natCast_nonneg _
          have j1 : (j : Int) < (k : Int) := by omega
          have j2 : (j : Int) < (n : Int) := by omega
          clear hx2
          go_wp2_with fail
          go_quiet (fail)
          go_wp2
          go_roundw
          case rel => exact ⟨j + 1, by omega, by go_num, Lib.hid (hu2.out.drewN _)⟩
          case measure => simp [intOf]; omega
        · go_wp2
          go_roundw
          case rel =>
            refine ⟨k + 1, some ⟨gg2, 0, none⟩, cp, by omega, rfl, by go_num, Lib.hid (own_upd OB.out hu2.out (fun _ _ h => h)), Nat.le_trans HS6.out hu2.out.size, HU2⟩
          case measure => simp [intOf]; omega
    · have hkn : k = n := by omega
      subst hkn
      obtain ⟨V2, vc2, e, hsv, _⟩ := Sl.of_own hown.out
      injection e with e1 e2 e3
      subst e1
      subst e3
      have hvs : (xs.take k).map fv = xs.map fv := by rw [List.take_of_length_le (by have := HN.out; omega)]
      rw [hvs] at hsv
      have HV := Lib.hid hsv
      obtain ⟨ps, hps⟩ := HSP.out (xs.map fv) (by simp)
      have HP := Lib.hid hps
      have hpl : ps.length = t := by have := psplit_len hps; have := HI.out.ln; have := HTT.out; simp only at *; omega
      have HPL := Lib.hid hpl
      clear hsv hps hvs hpl
      go_wp2_with fail
      refine (split_to HM.out (by simp [HN.out] : (xs.map fv).length = k) HPL.out rfl HP.out (by omega) (by omega) _ (HB.out.upd0 hu.out) HV.out).mono ?_
      rintro e w5 ⟨P, pc, rfl, hsp, hd⟩
      have HU5 := Lib.hid (hu.out.trans (Upd.of_below hd (fun _ => False)) (fun _ h => h.elim))
      have cb5 := (HBB.out.upd HU5.out (fun h => h)).cell
      have HSP5 := Lib.hid hsp
      have hgt : ¬ mo < (k : Int) := by omega
      have hgt2 : decide ((k : Int) > mo) = false := by simpa using hk4
      clear hsp hd y0 y1
      go_wp2_with fail
      go_loopw [14] (fun iv wr2 => ∃ (j : Nat), j ≤ t ∧ iv = .int .i64 j ∧ Hid (Upd (fun _ => False) w5 wr2)) (fun iv _ => t - (intOf iv).toNat)
      case atStart => exact ⟨0, Nat.zero_le _, rfl, Lib.hid (Upd.refl _ _)⟩
      case round =>
        obtain ⟨j, hjt, rfl, hu2⟩ := hrel
        by_cases hlt2 : j < t
        · obtain ⟨x, hx⟩ : ∃ x, tk[j]? = some x := ⟨tk[j]'(by rw [HTT.out]; exact hlt2), List.getElem?_eq_getElem _⟩
          have hy := told HI.out HP.out hx
          obtain ⟨tb, to, rfl, _, t0, t1⟩ := (HT.out.upd0 (HU5.out.trans hu2.out (fun _ h => h.elim))).pr hx
          obtain ⟨pb, po, rfl, _, p0, p1⟩ := (HSP5.out.upd0 hu2.out).pr hy
          obtain ⟨z, hz⟩ : ∃ z, z = fv x.2 := ⟨_, rfl⟩
          simp only at p0 p1
          rw [← hz] at p1
          have hz1 : IntKind.i64.wrap (1000 - x.2) = z := by rw [hz]; unfold fv wrap64; exact IntKind.wrap_i64 _
          have hz2 : wrap64 (1000 - x.2) = z := by rw [hz]; unfold fv; rfl
          have j0 : (0 : Int) ≤ (j : Int) := Int.natCast_nonneg _
          have j1 : (j : Int) < (t : Int) := by omega
          clear hx hy hz cb5
          go_wp2_with fail
          go_quiet (fail)
          go_wp2
          go_roundw
          case rel => exact ⟨j + 1, by omega, by go_num, Lib.hid (hu2.out.drewN _)⟩
          case measure => simp [intOf]; omega
        · go_wp2
          go_ret
          exact ⟨rfl, (HU1'.out.trans (HU5.out.trans hu2.out (fun _ h => h.elim)) (fun _ h => h.elim)).below0⟩

theorem bown_walk {w : World} (A0 : Option Addr) (len0 cap0 : Nat) (L0 : List (List Value)) (hL0 : L0.length = len0) (hlc0 : len0 ≤ cap0) (hm0 : cap0 ≤ maxLen) (hn0 : A0 = none → len0 = 0 ∧ cap0 = 0) (hok0 : ∀ row ∈ L0, Oks [.int .i64, .int .i64] row) (hr0 : Rows w A0 2 L0) (a1 : Int) (w1 : (Lit.int .u8 a1).wf = true) :
    Calls Try.prog 4 #[.slice A0 len0 cap0, .int .u8 a1] w fun e w' => e = .returned (.bool true) ∧ Below w.heap.size w w' := by
  obtain ⟨l, hl, _, hs⟩ := sl_prs hL0 hlc0 hm0 hn0 hok0 hr0
  unfold maxLen at hm0
  have hb : 0 ≤ a1 ∧ a1 ≤ 255 := by
    simp only [Lit.wf, Bool.and_eq_true, decide_eq_true_eq] at w1
    exact ⟨w1.1, w1.2⟩
  exact bown_any A0 len0 cap0 l hl (by omega) a1 hb.1 hb.2 w hs
end Go.Proofs.Ytdfnhbhcgkdplaa
