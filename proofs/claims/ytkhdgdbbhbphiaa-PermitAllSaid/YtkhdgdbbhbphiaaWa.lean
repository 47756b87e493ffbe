/- PermitAll. -/
import Derived.Test.YtkhdgdbbhbphiaaPs
import Derived.Test.YtkhdgdbbhbphiaaWo
namespace Go.Proofs.Ytkhdgdbbhbphiaa
open Go.RowKit
set_option linter.unusedVariables false
set_option linter.unusedSimpArgs false

theorem free_yes {g b N : Nat} {most : Int} {hs : List H2} {h : H2} (hh : hok h) (hm : h ∈ hs) (w : World) (hp : PS w g b most N hs) : Calls Try.prog 22 #[.pointer (some ⟨g, 0, none⟩), hval h] w fun e w' => e = .returned (.bool true) ∧ PS w' g b most N (hwo hs h) ∧ Upd (At b) w w' := by
  have := free_to hh w hp
  rwa [decide_eq_true hm] at this
theorem hwo_perm {hs l : List H2} {x : H2} (hp : hs.Perm (x :: l)) (hn : hs.Nodup) : (hwo hs x).Perm l := by
  have h1 : (hwo hs x).Perm (hwo (x :: l) x) := hp.filter _
  have h2 : (x :: l).Nodup := hp.nodup_iff.1 hn
  have h3 : hwo (x :: l) x = l := by
    unfold hwo
    rw [List.filter_cons_of_neg (by simp)]
    exact List.filter_eq_self.2 fun y hy => by
      simp only [decide_eq_true_eq]
      rintro rfl
      exact (List.nodup_cons.1 h2).1 hy
  rwa [h3] at h1
/-- Who takes in the law's second loop. -/
def hk (k : Nat) : H2 := (100 + (k : Int), 0)
def took : Nat → List H2
  | 0 => []
  | k + 1 => if k < 4 then hk k :: took k else took k
theorem took_len : ∀ k, (took k).length = min k 4
  | 0 => rfl
  | k + 1 => by
    unfold took
    have := took_len k
    split
    · simp [this]; omega
    · rw [this]; omega
theorem took_lt : ∀ (k : Nat) (z : H2), z ∈ took k → z.1 < 100 + (k : Int)
  | 0, z, h => by cases h
  | k + 1, z, h => by
    unfold took at h
    split at h
    · rcases List.mem_cons.1 h with rfl | h
      · simp [hk]; omega
      · have := took_lt k z h; omega
    · have := took_lt k z h; omega
theorem took_not (k : Nat) : hk k ∉ took k := fun h => by
  have := took_lt k _ h
  simp [hk] at this
theorem took_takes (k : Nat) : ptakes 4 (took k) (hk k) = decide (k < 4) ∧ ptake 4 (took k) (hk k) = took (k + 1) := by
  have h1 : ptakes 4 (took k) (hk k) = decide (k < 4) := by
    unfold ptakes
    rw [decide_eq_false (took_not k), took_len]
    by_cases h : k < 4
    · rw [decide_eq_true h, decide_eq_true (by omega)]; rfl
    · rw [decide_eq_false h, decide_eq_false (by omega)]; rfl
  refine ⟨h1, ?_⟩
  unfold ptake
  rw [h1, took]
  by_cases h : k < 4
  · rw [if_pos (by simp [h]), if_pos h]
    unfold hput
    rw [show (took k).filter (fun x => decide (x ≠ hk k)) = took k from hwo_none (took_not k)]
  · rw [if_neg (by simp [h]), if_neg h]
theorem take_n {g b i : Nat} (hi : i ≤ 11) {q : Bool} (hq : decide (i < 4) = q) (w : World) (hp : PS w g b 4 (100 + i) (took i)) : Calls Try.prog 21 #[.pointer (some ⟨g, 0, none⟩), .agg #[.int .i64 (100 + (i : Int)), .int .i64 0]] w fun e w' => e = .returned (.bool q) ∧ PS w' g b 4 (100 + (i + 1)) (took (i + 1)) ∧ Upd (At b) w w' := by
  have hok1 : hok (hk i) := by
    unfold hk hok
    have hmn : IntKind.i64.min = -9223372036854775808 := by decide
    constructor <;> (simp [Lit.wf, hmn]; try omega)
  have := take_to hok1 (by omega) w hp
  rw [(took_takes i).1, (took_takes i).2, hq] at this
  exact this
set_option maxRecDepth 100000 in
set_option maxHeartbeats 4000000 in
theorem pall_any (L : Option Addr) (len cap : Nat) (l : List P3) (hl : l.length = len) (hm : len ≤ 9223372036854775807) (hwf : Wp l) (a : Int) (h0 : 0 ≤ a) (h1 : a ≤ 255) (w : World) (hs0 : Sl w L len cap (fl p3 l)) :
    Calls Try.prog 7 #[.slice L len cap, .int .u8 a] w fun e w' => e = .returned (.bool true) ∧ Below w.heap.size w w' := by
  have HL := Lib.hid hl
  have HS := Lib.hid hs0
  have HWF := Lib.hid hwf
  clear hl hs0 hwf
  obtain ⟨m, hma⟩ : ∃ m : Nat, a % 12 = (m : Int) := ⟨(a % 12).toNat, by omega⟩
  have hm11 : m ≤ 11 := by omega
  have HMA := Lib.hid hma
  clear hma
  go_enter Try.func7, Try.ntmps7
  go_wp2_with fail
  refine (awake_any _).mono ?_
  rintro e_ w1 ⟨rfl, hu⟩
  have U1 := Lib.hid hu
  clear hu
  go_wp2_with fail
  refine (ran_to L len cap l HL.out hm HWF.out _ (HS.out.upd0 U1.out)).mono ?_
  rintro e_ w2 ⟨g, rfl, b, hs, hp, hlen, hg, hb, hu⟩
  have U2 := Lib.hid (U1.out.trans hu (fun _ h => h.elim))
  have HBN : Hid (w.heap.size ≤ b) := Lib.hid (Nat.le_trans U1.out.size hb)
  have P2 := Lib.hid hp
  have HLEN := Lib.hid hlen
  clear hp hlen hg hb hu U1
  go_wp2_with fail
  refine (all_to (Nat.le_trans HLEN.out (by decide)) _ P2.out).mono ?_
  rintro e_ w3 ⟨A, n, c, l1, rfl, hpm, hri, hln, hsl, hu⟩
  have U3 := Lib.hid (U2.out.trans hu (fun _ h => h.elim))
  have P3_ := Lib.hid (P2.out.upd0 hu)
  have S3 := Lib.hid hsl
  have HPM := Lib.hid hpm
  have HLN := Lib.hid hln
  have hn4 : n ≤ 4 := by have := HLEN.out; have := hpm.length_eq; omega
  clear hpm hri hln hsl hu U2 P2
  go_wp2_with fail
  go_loopw [8] (fun iv wr => ∃ (k : Nat) (hs' : List H2), k ≤ n ∧ iv = .int .i64 k ∧ Hid (PS wr g b 4 100 hs' ∧ hs'.Perm (l1.drop k)) ∧ Hid (Sl wr A n c (prs l1)) ∧ Hid (Upd (fun _ => False) w wr)) (fun iv _ => n - (intOf iv).toNat)
  case atStart => exact ⟨0, hs, Nat.zero_le _, rfl, Lib.hid ⟨P3_.out, HPM.out.symm⟩, S3, U3⟩
  case round =>
    obtain ⟨k, hs', hk', rfl, HP, HSL, HU⟩ := hrel
    have i0 : (0 : Int) ≤ (k : Int) := Int.natCast_nonneg _
    by_cases hkn : k < n
    · obtain ⟨x, hx⟩ : ∃ x, l1[k]? = some x := ⟨l1[k]'(by rw [HLN.out]; exact hkn), List.getElem?_eq_getElem _⟩
      have hdr : l1.drop k = x :: l1.drop (k + 1) := by
        obtain ⟨h1, h2⟩ := List.getElem?_eq_some_iff.1 hx
        rw [List.drop_eq_getElem_cons h1, h2]
      have HPE : Hid (hs'.Perm (x :: l1.drop (k + 1))) := Lib.hid (hdr ▸ HP.out.2)
      have HIN : Hid (x ∈ hs') := Lib.hid (HPE.out.mem_iff.2 (by simp))
      have HOK : Hid (hok x) := Lib.hid (HP.out.1.oks x HIN.out)
      have i1 : (k : Int) < (n : Int) := by omega
      obtain ⟨b1, o1, rfl, hb1, c0, c1⟩ := HSL.out.pr hx
      clear hx hdr
      go_wp2_with fail
      refine (free_yes HOK.out HIN.out _ HP.out.1).mono ?_
      rintro e_ w5 ⟨rfl, hp5, hu⟩
      have HP5 : Hid (PS w5 g b 4 100 (hwo hs' x) ∧ (hwo hs' x).Perm (l1.drop (k + 1))) := Lib.hid ⟨hp5, hwo_perm HPE.out HP.out.1.nodup⟩
      have HS5 := Lib.hid (HP.out.1.sl HSL.out hu)
      have HU5 := Lib.hid (HU.out.trans hu (fun i hi => .inr (by rw [show i = b from hi]; exact HBN.out)))
      clear hp5 hu
      go_wp2
      go_roundw
      case rel => exact ⟨k + 1, _, by omega, by go_num, HP5, HS5, HU5⟩
      case measure => simp [intOf]; omega
    · obtain rfl : k = n := by omega
      have hnil : hs' = [] := by
        have := HP.out.2
        rw [List.drop_of_length_le (by rw [HLN.out]; exact Nat.le_refl _)] at this
        exact this.eq_nil
      subst hnil
      have P4 := Lib.hid HP.out.1
      clear HP HSL S3 P3_ U3 hkn i0
      go_wp2_with fail
      go_loopw [9, 10] (fun gv iv w7 => ∃ (i : Nat), i ≤ m ∧ iv = .int .i64 i ∧ gv = .int .i64 ((min i 4 : Nat) : Int) ∧ Hid (PS w7 g b 4 (100 + i) (took i)) ∧ Hid (Upd (fun _ => False) w w7)) (fun _ iv _ => m - (intOf iv).toNat)
      case atStart => exact ⟨0, Nat.zero_le _, rfl, rfl, P4, HU⟩
      case round =>
        obtain ⟨i, hi, rfl, rfl, HP7, HU7⟩ := hrel

        have i0 : (0 : Int) ≤ (i : Int) := Int.natCast_nonneg _
        have a1 : a % 12 = (m : Int) := HMA.out
        by_cases him : i < m
        · have i1 : (i : Int) < (m : Int) := by omega
          by_cases hi4 : i < 4
          · go_wp2_with fail
            refine (take_n (q := true) (by omega) (decide_eq_true hi4) _ HP7.out).mono ?_
            rintro e_ w8 ⟨rfl, hp8, hu⟩
            have HP8 := Lib.hid hp8
            have HU8 := Lib.hid (HU7.out.trans hu (fun i hi => .inr (by rw [show i = b from hi]; exact HBN.out)))
            clear hp8 hu
            have hmin : min i 4 = i := by omega
            go_wp2
            go_roundw
            case rel => exact ⟨i + 1, by omega, by go_num, by (have : min (i + 1) 4 = min i 4 + 1 := by omega); (rw [this]; go_num), HP8, HU8⟩
            case measure => simp [intOf]; omega
          · go_wp2_with fail
            refine (take_n (q := false) (by omega) (decide_eq_false hi4) _ HP7.out).mono ?_
            rintro e_ w8 ⟨rfl, hp8, hu⟩
            have HP8 := Lib.hid hp8
            have HU8 := Lib.hid (HU7.out.trans hu (fun i hi => .inr (by rw [show i = b from hi]; exact HBN.out)))
            clear hp8 hu
            go_wp2
            go_roundw
            case rel => exact ⟨i + 1, by omega, by go_num, by (have : min (i + 1) 4 = min i 4 := by omega); (rw [this]), HP8, HU8⟩
            case measure => simp [intOf]; omega
        · obtain rfl : i = m := by omega
          have i1 : ¬ (i : Int) < (i : Int) := by omega
          have HU9 := Lib.hid HU7.out
          have HTL : Hid ((took i).length = min i 4) := Lib.hid (took_len i)
          clear P4 HU
          have m0 : (min (i : Int) 4 = ((min i 4 : Nat) : Int)) := by omega
          go_wp2_with fail
          have HUS := used_to _ HP7.out
          rw [HTL.out] at HUS
          refine HUS.mono ?_
          rintro e_ w9 ⟨rfl, hu⟩
          have HU10 := Lib.hid (HU9.out.trans hu (fun _ h => h.elim))
          clear hu HUS
          go_wp2
          go_ret
          exact ⟨rfl, HU10.out.below0⟩
theorem pall_walk {w : World} (A0 : Option Addr) (len0 cap0 : Nat) (L0 : List (List Value)) (hL0 : L0.length = len0) (hlc0 : len0 ≤ cap0) (hm0 : cap0 ≤ maxLen) (hn0 : A0 = none → len0 = 0 ∧ cap0 = 0) (hok0 : ∀ row ∈ L0, Oks [.int .i64, .int .i64, .int .i64] row) (hr0 : Rows w A0 3 L0)
    (a1 : Int) (w1 : (Lit.int .u8 a1).wf = true) :
    Calls Try.prog 7 #[.slice A0 len0 cap0, .int .u8 a1] w fun e w' => e = .returned (.bool true) ∧ Below w.heap.size w w' := by
  obtain ⟨l, hl, hwf, hs⟩ := sl_rows (enc := p3) p3_len (by decide) p3_dec hL0 hlc0 hm0 hn0 hok0 hr0
  unfold maxLen at hm0
  have hmn : IntKind.u8.min = 0 := by decide
  have hmx : IntKind.u8.max = 255 := by decide
  simp only [Lit.wf, hmn, hmx, Bool.and_eq_true, decide_eq_true_eq] at w1
  exact pall_any A0 len0 cap0 l hl (by omega) hwf a1 (by omega) (by omega) w hs
end Go.Proofs.Ytkhdgdbbhbphiaa
