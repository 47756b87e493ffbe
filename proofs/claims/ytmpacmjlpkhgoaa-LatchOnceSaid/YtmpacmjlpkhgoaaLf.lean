/- LatchFirst -/
import Derived.Test.YtmpacmjlpkhgoaaLw
import Derived.Deep.RegionHeld3
namespace Go.Proofs.Ytmpacmjlpkhgoaa
open Go.RowKit
open Go.Maps (Keyed IsMap Tidy)
set_option linter.unusedVariables false
set_option linter.unusedSimpArgs false

theorem take_end {α : Type} {l : List α} {len k : Nat} (hl : l.length = len) (hk : k ≤ len) (hk2 : k ≤ 100) (h : ¬ (k < len ∧ k < 100)) : Hid (l.take 100 = l.take k) := by
  refine Lib.hid ?_
  by_cases h3 : k = 100
  · rw [h3]
  · rw [List.take_of_length_le (by omega), List.take_of_length_le (by omega)]
/-- The first one that may be. -/
def fst_ (id : Int) (l : List O5) : Option O5 := l.find? (fun o => o.1 == id && omay o)
theorem fst_snoc (id : Int) (l : List O5) (o : O5) : fst_ id (l ++ [o]) = (fst_ id l).or (if o.1 = id ∧ omay o = true then some o else none) := by
  unfold fst_
  rw [List.find?_append]
  by_cases h : o.1 = id ∧ omay o = true
  · rw [if_pos h]
    simp [h.1, h.2]
  · rw [if_neg h]
    have : (o.1 == id && omay o) = false := by
      rw [Bool.and_eq_false_iff]
      by_cases e : o.1 = id
      · exact .inr (by cases hm : omay o with | false => rfl | true => exact absurd ⟨e, hm⟩ h)
      · exact .inl (by simpa using e)
    simp [this]
theorem lget_fold0 (id : Int) : ∀ (l L : List O5), lget (lfold L l) id = (lget L id).or (fst_ id l)
  | [], L => by simp [lfold, fst_]
  | o :: l, L => by
    have h : lget (lfold L (o :: l)) id = lget (lfold (lemit L o).1 l) id := rfl
    rw [h, lget_fold0 id l, lget_emit, Option.or_assoc]
    have h2 : fst_ id (o :: l) = (if o.1 = id ∧ omay o = true then some o else none).or (fst_ id l) := by
      unfold fst_
      by_cases h : o.1 = id ∧ omay o = true
      · rw [if_pos h]
        simp [h.1, h.2]
      · rw [if_neg h]
        have : (o.1 == id && omay o) = false := by
          rw [Bool.and_eq_false_iff]
          by_cases e : o.1 = id
          · exact .inr (by cases hm : omay o with | false => rfl | true => exact absurd ⟨e, hm⟩ h)
          · exact .inl (by simpa using e)
        simp [this]
    rw [h2]
theorem lget_fold (id : Int) (l : List O5) : lget (lfold [] l) id = fst_ id l := by
  rw [lget_fold0]
  rfl

set_option maxHeartbeats 4000000 in
theorem lfirst_any (A : Option Addr) (len cap : Nat) (l : List O5) (hl : l.length = len) (hm : len ≤ 9223372036854775807) (hwf : Wf l) (id : Int) (hid : (Lit.int .i64 id).wf = true) (w : World) (hs : Sl w A len cap (fl o5 l)) :
    Calls Try.prog 6 #[.slice A len cap, .int .i64 id] w fun e w' => e = .returned (.bool true) ∧ Below w.heap.size w w' := by
  have HS := Lib.hid hs
  have HL := Lib.hid hl
  have HW := Lib.hid hwf
  clear hs hl hwf
  go_enter Try.func6, Try.ntmps6
  go_wp2_with fail
  refine (awake_any _).mono ?_
  rintro e w0 ⟨rfl, hd⟩
  have U0 := Lib.hid (Upd.of_below hd (fun _ => False))
  clear hd
  go_wp2_with fail
  refine (ran_any A len cap l HL.out hm HW.out _ (HS.out.upd0 U0.out)).mono ?_
  rintro e w1 ⟨g, F, rfl, hg, hd⟩
  have G1 := Lib.hid hg
  have U1 := Lib.hid (U0.out.trans (Upd.of_below hd (fun _ => False)) (fun _ h => h.elim))
  have hLL : Hid ((lfold [] (l.take 100)).length ≤ 100) := Lib.hid (by have := fold_len (l.take 100) []; simp at this; omega)
  clear hg hd
  have HID := Lib.hid hid
  clear hid
  go_wp2_with fail
  have B1 : Hid (Blk (w1.alloc (.cells #[.int .i64 0, .int .i64 0, .int .i64 0, .int .i64 0, .int .u64 0] 29)) w1.heap.size 29 #[.int .i64 0, .int .i64 0, .int .i64 0, .int .i64 0, .int .u64 0]) := Lib.hid (Blk.new _ _ _)
  go_loopw [8, 9] (fun isv i wr => ∃ (k : Nat) (s : Bool) (a b c d e : Int), k ≤ len ∧ k ≤ 100 ∧ i = .int .i64 k ∧ isv = .bool s ∧ Hid (fst_ id (l.take k) = if s then some (a, b, c, d, e) else none) ∧ Hid (s = false → a = 0 ∧ b = 0 ∧ c = 0 ∧ d = 0 ∧ e = 0) ∧ Hid (Blk wr w1.heap.size 29 #[.int .i64 a, .int .i64 b, .int .i64 c, .int .i64 d, .int .u64 e]) ∧ Hid (Upd (At w1.heap.size) (w1.alloc (.cells #[.int .i64 0, .int .i64 0, .int .i64 0, .int .i64 0, .int .u64 0] 29)) wr)) (fun _ i _ => 100 - (intOf i).toNat)
  case atStart => exact ⟨0, false, 0, 0, 0, 0, 0, Nat.zero_le _, Nat.zero_le _, rfl, rfl, Lib.hid rfl, Lib.hid (fun _ => ⟨rfl, rfl, rfl, rfl, rfl⟩), B1, Lib.hid (Upd.refl _ _)⟩
  case round =>
    obtain ⟨k, s, a, b0, c, d, e0, hk, hk2, rfl, rfl, hst, hze, hbk, hu⟩ := hrel
    have UW : Hid (Upd (fun _ => False) w wr) := Lib.hid ((U1.out.alloc _).trans hu.out (fun i hi => .inr (by rw [show i = w1.heap.size from hi]; exact U1.out.size)))
    have GW : Hid (Log wr g w0.heap.size F (lfold [] (l.take 100))) := Lib.hid ((G1.out.upd0 ((Upd.refl _ _).alloc _)).upd hu.out (fun i hi hs => by have := (G1.out.ge i hi).2; rw [show i = w1.heap.size from hs] at this; exact Nat.lt_irrefl _ this))
    have hgl := hbk.out.lt
    by_cases h1 : k < len ∧ k < 100
    · obtain ⟨h1, h2⟩ := h1
      obtain ⟨o, ho⟩ : ∃ o, l[k]? = some o := ⟨l[k]'(by have := HL.out; omega), List.getElem?_eq_getElem _⟩
      obtain ⟨b, of, e, hb, hc⟩ := (HS.out.upd0 UW.out).row o5_len (by decide) ho
      obtain ⟨oi, ok, oc, ov, oa⟩ := o
      have d0 := hc 0 _ rfl
      have d1 := hc 1 _ rfl
      have d2 := hc 2 _ rfl
      have d3 := hc 3 _ rfl
      have d4 := hc 4 _ rfl
      simp only [Nat.add_zero, ← Nat.add_assoc] at d0 d1 d2 d3 d4
      have i0 : (0 : Int) ≤ (k : Int) := Int.natCast_nonneg _
      have i1 : (k : Int) < (len : Int) := by omega
      subst e
      have SN : Hid (fst_ id (l.take (k + 1)) = (fst_ id (l.take k)).or (if oi = id ∧ omay (oi, ok, oc, ov, oa) = true then some (oi, ok, oc, ov, oa) else none)) := Lib.hid (by rw [take_snoc ho, fst_snoc])
      clear ho hc
      cases s with
      | true =>
        have SE : Hid (fst_ id (l.take (k + 1)) = some (a, b0, c, d, e0)) := Lib.hid (by rw [SN.out, hst.out]; rfl)
        clear SN hst hze
        go_wp2
        go_roundw
        case rel => exact ⟨k + 1, true, a, b0, c, d, e0, by omega, by omega, by go_num, rfl, Lib.hid (by rw [SE.out]; rfl), Lib.hid (fun h => by cases h), hbk, hu⟩
        case measure => simp [intOf]; omega
      | false =>
        have SF : Hid (fst_ id (l.take k) = none) := Lib.hid (by rw [hst.out]; rfl)
        have ZE : Hid (a = 0 ∧ b0 = 0 ∧ c = 0 ∧ d = 0 ∧ e0 = 0) := Lib.hid (hze.out rfl)
        clear hst hze
        by_cases hi : oi = id
        · subst hi
          obtain ⟨mb, hmb⟩ : ∃ mb, omay (oi, ok, oc, ov, oa) = mb := ⟨_, rfl⟩
          have HMB := Lib.hid hmb
          clear hmb
          have cb := hbk.out.cell
          have fb := hbk.out.frz
          cases mb with
          | false =>
            have SE : Hid (fst_ oi (l.take (k + 1)) = none) := Lib.hid (by rw [SN.out, SF.out, if_neg (by rw [HMB.out]; simp)]; rfl)
            clear SN SF
            go_wp2_with (go_at_call 15; refine (may_to HMB.out _).mono ?_; rintro e w3 ⟨rfl, hd⟩; have U3 := Lib.hid (Upd.of_below hd (fun _ => False)); clear hd)
            go_roundw
            case rel => exact ⟨k + 1, false, a, b0, c, d, e0, by omega, by omega, by go_num, rfl, Lib.hid (by rw [SE.out]; rfl), Lib.hid (fun _ => ZE.out), Lib.hid (hbk.out.upd U3.out (fun h => h)), Lib.hid (hu.out.trans U3.out (fun _ h => h.elim))⟩
            case measure => simp [intOf]; omega
          | true =>
            have SE : Hid (fst_ oi (l.take (k + 1)) = some (oi, ok, oc, ov, oa)) := Lib.hid (by rw [SN.out, SF.out, if_pos ⟨rfl, HMB.out⟩]; rfl)
            clear SN SF ZE
            go_wp2_with (go_at_call 15; refine (may_to HMB.out _).mono ?_; rintro e w3 ⟨rfl, hd⟩; have U3 := Lib.hid (Upd.of_below hd (fun _ => False)); have B3 := Lib.hid (hbk.out.upd U3.out (fun h => h)); have x0 := (U3.out.cellq (p := ⟨b, of + k * 5, none⟩) hb (fun h => h)).trans d0; have x1 := (U3.out.cellq (p := ⟨b, of + k * 5 + 1, none⟩) hb (fun h => h)).trans d1; have x2 := (U3.out.cellq (p := ⟨b, of + k * 5 + 2, none⟩) hb (fun h => h)).trans d2; have x3 := (U3.out.cellq (p := ⟨b, of + k * 5 + 3, none⟩) hb (fun h => h)).trans d3; have x4 := (U3.out.cellq (p := ⟨b, of + k * 5 + 4, none⟩) hb (fun h => h)).trans d4; have cb3 := B3.out.cell; have fb3 := B3.out.frz; have hl3 := B3.out.lt; have hlb3 : b < w3.heap.size := Nat.lt_of_lt_of_le hb U3.out.size; clear hd d0 d1 d2 d3 d4 cb fb)
            go_roundw
            case rel => exact ⟨k + 1, true, oi, ok, oc, ov, oa, by omega, by omega, by go_num, rfl, Lib.hid (by rw [SE.out]; rfl), Lib.hid (fun h => by cases h), Lib.hid (((((B3.out.set 0 _).set 1 _).set 2 _).set 3 _).set 4 _), Lib.hid ((((((hu.out.trans U3.out (fun _ h => h.elim)).put 0 _).put 1 _).put 2 _).put 3 _).put 4 _)⟩
            case measure => simp [intOf]; omega
        · have hb' : (oi == id) = false := by simpa using hi
          have SE : Hid (fst_ id (l.take (k + 1)) = none) := Lib.hid (by rw [SN.out, SF.out, if_neg (fun h => hi h.1)]; rfl)
          clear hi SN SF
          go_wp2
          go_roundw
          case rel => exact ⟨k + 1, false, a, b0, c, d, e0, by omega, by omega, by go_num, rfl, Lib.hid (by rw [SE.out]; rfl), Lib.hid (fun _ => ZE.out), hbk, hu⟩
          case measure => simp [intOf]; omega
    · have HT : Hid (l.take 100 = l.take k) := take_end HL.out hk hk2 h1
      have HG : Hid (lget (lfold [] (l.take 100)) id = if s then some (a, b0, c, d, e0) else none) := Lib.hid (by rw [lget_fold, HT.out, hst.out])
      by_cases h3 : k < len
      · have hk100 : k = 100 := by omega
        subst hk100
        go_wp2_with fail
        refine (of_to HG.out hze.out HID.out (Nat.le_trans hLL.out (by decide)) _ GW.out).mono ?_
        rintro e w5 ⟨rfl, hd⟩
        have U5 := Lib.hid (Upd.of_below hd (fun _ => False))
        have B5 := Lib.hid (hbk.out.upd U5.out (fun h => h))
        have c5 := B5.out.cell
        have hl5 := B5.out.lt
        have UW5 := Lib.hid (UW.out.trans U5.out (fun _ h => h.elim))
        clear hd
        go_wp2
        go_ret
        exact ⟨rfl, (UW5.out.alloc _).below0⟩
      · have h4 : ¬ (k : Int) < (len : Int) := by omega
        go_wp2_with fail
        refine (of_to HG.out hze.out HID.out (Nat.le_trans hLL.out (by decide)) _ GW.out).mono ?_
        rintro e w5 ⟨rfl, hd⟩
        have U5 := Lib.hid (Upd.of_below hd (fun _ => False))
        have B5 := Lib.hid (hbk.out.upd U5.out (fun h => h))
        have c5 := B5.out.cell
        have hl5 := B5.out.lt
        have UW5 := Lib.hid (UW.out.trans U5.out (fun _ h => h.elim))
        clear hd
        go_wp2
        go_ret
        exact ⟨rfl, (UW5.out.alloc _).below0⟩
end Go.Proofs.Ytmpacmjlpkhgoaa
