/- LatchNobody -/
import Derived.Test.YtmpacmjlpkhgoaaLst
import Derived.Deep.RegionHeld3
namespace Go.Proofs.Ytmpacmjlpkhgoaa
open Go.RowKit
open Go.Maps (Keyed IsMap Tidy)
set_option linter.unusedVariables false
set_option linter.unusedSimpArgs false

theorem of_nil (id : Int) (w : World) : Calls Try.prog 13 #[.pointer none, .int .i64 id] w fun e w' => e = .returned (.tuple #[.agg #[.int .i64 0, .int .i64 0, .int .i64 0, .int .i64 0, .int .u64 0], .bool false]) ∧ Below w.heap.size w w' := by
  go_enter Try.func13, Try.ntmps13
  go_wp2
  exact bodyPost_ret (v := .tuple #[.agg #[.int .i64 0, .int .i64 0, .int .i64 0, .int .i64 0, .int .u64 0], .bool false]) (by simp [results, Try.results13, go_sem]) rfl ⟨rfl, (by refine Upd.below0 ?_; repeat (first | exact Upd.refl _ _ | refine Upd.alloc ?_ _ | refine Upd.drew ?_ | refine Upd.drewN ?_ _))⟩
theorem emit_nil (a b c d e0 : Int) (w : World) : Calls Try.prog 11 #[.pointer none, .agg #[.int .i64 a, .int .i64 b, .int .i64 c, .int .i64 d, .int .u64 e0]] w fun e w' => e = .returned (.bool false) ∧ Below w.heap.size w w' := by
  go_enter Try.func11, Try.ntmps11
  go_wp2
  go_ret
  exact ⟨rfl, (by refine Upd.below0 ?_; repeat (first | exact Upd.refl _ _ | refine Upd.alloc ?_ _ | refine Upd.drew ?_ | refine Upd.drewN ?_ _))⟩
theorem since_nil (n : Int) (w : World) : Calls Try.prog 19 #[.pointer none, .int .i64 n] w fun e w' => e = .returned (.slice none 0 0) ∧ Below w.heap.size w w' := by
  go_enter Try.func19, Try.ntmps19
  go_wp2
  go_ret
  exact ⟨rfl, (by refine Upd.below0 ?_; repeat (first | exact Upd.refl _ _ | refine Upd.alloc ?_ _ | refine Upd.drew ?_ | refine Upd.drewN ?_ _))⟩
theorem all_nil (w : World) : Calls Try.prog 18 #[.pointer none] w fun e w' => e = .returned (.slice none 0 0) ∧ Below w.heap.size w w' := by
  go_enter Try.func18, Try.ntmps18
  go_wp2_with fail
  refine (since_nil 0 _).mono ?_
  rintro e w1 ⟨rfl, hd⟩
  have HD := Lib.hid hd
  clear hd
  go_wp2
  go_ret
  exact ⟨rfl, HD.out⟩
/-- A row of one's own: its block. -/
theorem own_open {w : World} {base n c : Nat} {A : Option Addr} {l : List O5} {t : TypeId} (h : w.ownsRow base t 5 (.slice A n c) n (fl o5 l)) (hn : 0 < n) : ∃ g cur, A = some ⟨g, 0, none⟩ ∧ base ≤ g ∧ Blk w g t cur ∧ ∀ (i : Nat) o, l[i]? = some o → cur[i * 5]? = some (.int .i64 o.1) := by
  rcases h.2 with ⟨hv, h0⟩ | ⟨g, cap, cur, hv, hb, hh, h1, h2, h3, h4⟩
  · omega
  · injection hv with hv
    refine ⟨g, cur, hv, hb, hh, fun i o ho => ?_⟩
    have h5 := fl_get o5_len ho (j := 0) (v := .int .i64 o.1) rfl
    rw [← h4, List.getElem?_take] at h5
    split at h5
    · simpa using h5
    · cases h5

set_option maxHeartbeats 4000000 in
theorem lnobody_any (A : Option Addr) (len cap : Nat) (l : List O5) (hl : l.length = len) (hm : len ≤ 9223372036854775807) (hwf : Wf l) (p0 p1 p2 p3 p4 : Int) (w : World) (hs : Sl w A len cap (fl o5 l)) :
    Calls Try.prog 8 #[.slice A len cap, .agg #[.int .i64 p0, .int .i64 p1, .int .i64 p2, .int .i64 p3, .int .u64 p4]] w fun e w' => e = .returned (.bool true) ∧ Below w.heap.size w w' := by
  have HS := Lib.hid hs
  have HL := Lib.hid hl
  have HW := Lib.hid hwf
  clear hs hl hwf
  go_enter Try.func8, Try.ntmps8
  go_wp2_with fail
  refine (awake_any _).mono ?_
  rintro e wa ⟨rfl, hd⟩
  have Ua := Lib.hid (((Upd.refl (fun _ => False) w).alloc _).trans (Upd.of_below hd (fun _ => False)) (fun _ h => h.elim))
  have Ba := Lib.hid ((Blk.new w #[.int .i64 p0, .int .i64 p1, .int .i64 p2, .int .i64 p3, .int .u64 p4] 29).upd (Upd.of_below hd (fun _ => False)) (fun h => h))
  have x0 := Ba.out.cell 0
  have hla := Ba.out.lt
  clear hd
  go_wp2_with fail
  refine (of_nil _ _).mono ?_
  rintro e wb ⟨rfl, hd⟩
  have Ub := Lib.hid (Ua.out.trans (Upd.of_below hd (fun _ => False)) (fun _ h => h.elim))
  have Bb := Lib.hid (Ba.out.upd (Upd.of_below hd (fun _ => False)) (fun h => h))
  clear hd x0 hla Ua Ba
  go_wp2_with fail
  refine Calls.gen (fun W => Upd (fun _ => False) w W ∧ Blk W w.heap.size 29 #[.int .i64 p0, .int .i64 p1, .int .i64 p2, .int .i64 p3, .int .u64 p4]) ⟨Ub.out.alloc _, Bb.out.alloc _⟩ ?_
  rintro w0 ⟨u0, b0⟩
  have U0 := Lib.hid u0
  have B0 := Lib.hid b0
  clear u0 b0 Ub Bb
  refine (ran_any A len cap l HL.out hm HW.out _ (HS.out.upd0 U0.out)).mono ?_
  rintro e w1 ⟨g, F, rfl, hg, hd⟩
  have G1 := Lib.hid hg
  have U1 := Lib.hid (U0.out.trans (Upd.of_below hd (fun _ => False)) (fun _ h => h.elim))
  have B1 := Lib.hid (B0.out.upd (Upd.of_below hd (fun _ => False)) (fun h => h))
  have hLL : Hid ((lfold [] (l.take 100)).length ≤ 100) := Lib.hid (by have := fold_len (l.take 100) []; simp at this; omega)
  have hw1 : w.heap.size < w1.heap.size := B1.out.lt
  clear hg hd U0 B0
  obtain ⟨L, hL⟩ : ∃ L, L = lfold [] (l.take 100) := ⟨_, rfl⟩
  rw [← hL] at G1 hLL
  clear hL
  obtain ⟨n, hn⟩ : ∃ n, L.length = n := ⟨_, rfl⟩
  have HN := Lib.hid hn
  have hn1 : n ≤ 1000 := by have := hLL.out; omega
  have HFl : Hid (∀ k, F k → k < w1.heap.size) := Lib.hid (fun k hk => (G1.out.ge k hk).2)
  go_wp2_with fail
  refine (all_any g _ F L (by have := hLL.out; omega) _ G1.out).mono ?_
  rintro e w2 ⟨v, rfl, ho, hu⟩
  rw [hn] at ho
  clear hn
  obtain ⟨A1, c1, rfl, _, hba⟩ := Sl.of_own ho
  have R2 := Lib.hid ho
  have U2 := Lib.hid (U1.out.trans hu (fun _ h => h.elim))
  have B2 := Lib.hid (B1.out.upd hu (fun h => h))
  have G2 := Lib.hid (G1.out.upd0 hu)
  have HBA := Lib.hid hba
  clear ho hu hba G1 U1 B1
  go_wp2_with fail
  refine (all_to HN.out hn1 _ G2.out).mono ?_
  rintro e w3 ⟨A2, c2, rfl, hs3, hb3, hu3⟩
  have S3 := Lib.hid hs3
  have HB3 := Lib.hid hb3
  have R3 := Lib.hid (own_upd0 R2.out hu3)
  have U3 := Lib.hid (U2.out.trans hu3 (fun _ h => h.elim))
  have B3 := Lib.hid (B2.out.upd hu3 (fun h => h))
  have G3 := Lib.hid (G2.out.upd0 hu3)
  have H12 : Hid (∀ k, (Value.slice A1 n c1).ownBlock = some k → w1.heap.size ≤ k ∧ k < w2.heap.size) := Lib.hid (fun k hk => ⟨own_ge R2.out hk, own_lt R2.out hk⟩)
  clear hs3 hb3 hu3 U2 B2 G2
  go_wp2_with fail
  go_loopw [12] (fun i wr => ∃ (k : Nat), k ≤ n ∧ i = .int .i64 k ∧ Hid (0 < n → ∃ g1 cur, A1 = some ⟨g1, 0, none⟩ ∧ w1.heap.size ≤ g1 ∧ g1 < w2.heap.size ∧ Blk wr g1 29 cur ∧ ∀ (i : Nat) o, k ≤ i → L[i]? = some o → cur[i * 5]? = some (.int .i64 o.1)) ∧ Hid (Upd (fun k => w1.heap.size ≤ k ∧ k < w2.heap.size) w3 wr)) (fun i _ => n - (intOf i).toNat)
  case atStart =>
    refine ⟨0, Nat.zero_le _, rfl, Lib.hid (fun hz => ?_), Lib.hid (Upd.refl _ _)⟩
    obtain ⟨g1, cur, hA, hbg, hbk, hcur⟩ := own_open R3.out hz
    have := H12.out g1 (by rw [hA]; rfl)
    exact ⟨g1, cur, hA, this.1, this.2, hbk, fun i o _ ho => hcur i o ho⟩
  case round =>
    obtain ⟨k, hk, rfl, hrow, hu⟩ := hrel
    by_cases h1 : k < n
    · obtain ⟨g1, cur, hA, hg1, hg2, hbk, hcur⟩ := hrow.out (by omega)
      subst hA
      obtain ⟨o, ho⟩ : ∃ o, L[k]? = some o := ⟨L[k]'(by have := HN.out; omega), List.getElem?_eq_getElem _⟩
      have d0 : wr.cell? ⟨g1, k * 5, none⟩ = some (.int .i64 o.1) := (hbk.cell (k * 5)).trans (hcur k o (Nat.le_refl _) ho)
      have fb := hbk.frz
      have hlg := hbk.lt
      have HBK := Lib.hid hbk
      have HCUR := Lib.hid hcur
      have i0 : (0 : Int) ≤ (k : Int) := Int.natCast_nonneg _
      have i1 : (k : Int) < (n : Int) := by omega
      clear ho hbk hcur hrow
      go_wp2
      go_roundw
      case rel =>
        refine ⟨k + 1, by omega, by go_num, Lib.hid (fun _ => ⟨g1, _, rfl, hg1, hg2, HBK.out.set (k * 5) _, fun i o hi ho => ?_⟩), Lib.hid (hu.out.set (p := ⟨g1, k * 5, none⟩) (.inl ⟨hg1, hg2⟩) _)⟩
        rw [Array.getElem?_setIfInBounds_ne (by omega)]
        exact HCUR.out i o (by omega) ho
      case measure => simp [intOf]; omega
    · have G5 : Hid (Log wr g w0.heap.size F L) := Lib.hid (G3.out.upd hu.out (fun k hk hs => by have := HFl.out k hk; omega))
      have S5 : Hid (Sl wr A2 n c2 (fl o5 L)) := Lib.hid (S3.out.upd hu.out (fun b o e hs => by have := HB3.out b o e; omega))
      have B5 : Hid (Blk wr w.heap.size 29 #[.int .i64 p0, .int .i64 p1, .int .i64 p2, .int .i64 p3, .int .u64 p4]) := Lib.hid (B3.out.upd hu.out (fun hs => by omega))
      have hle1 : w.heap.size ≤ w1.heap.size := Nat.le_of_lt hw1
      have U5 : Hid (Upd (fun _ => False) w wr) := Lib.hid (U3.out.trans hu.out (fun k hs => .inr (by omega)))
      have x0 := B5.out.cell 0
      have x1 := B5.out.cell 1
      have x2 := B5.out.cell 2
      have x3 := B5.out.cell 3
      have x4 := B5.out.cell 4
      have hl5 := B5.out.lt
      clear hrow
      go_wp2_with (first | (go_at_call 11; refine (emit_nil _ _ _ _ _ _).mono ?_; rintro e w5 ⟨rfl, hd⟩; have V5 := Lib.hid (Upd.of_below hd (fun _ => False)); clear hd x0 x1 x2 x3 x4) | (go_at_call 19; refine (since_nil _ _).mono ?_; rintro e w7 ⟨rfl, hd⟩; have V7 := Lib.hid (V6.out.trans (Upd.of_below hd (fun _ => False)) (fun _ h => h.elim)); clear hd) | (go_at_call 17; refine (rsame_to HN.out hn1 _ S8.out (S5.out.upd0 V8.out)).mono ?_; rintro e w9 ⟨rfl, hd⟩; have V9 := Lib.hid (V8.out.trans (Upd.of_below hd (fun _ => False)) (fun _ h => h.elim)); clear hd) | (go_at_call 18; with_reducible refine (all_nil _).mono ?_; rintro e w6 ⟨rfl, hd⟩; have V6 := Lib.hid (V5.out.trans (Upd.of_below hd (fun _ => False)) (fun _ h => h.elim)); clear hd) | (go_at_call 18; refine (all_to HN.out hn1 _ (G5.out.upd0 V7.out)).mono ?_; rintro e w8 ⟨A8, c8, rfl, hs8, _, hu8⟩; have S8 := Lib.hid hs8; have V8 := Lib.hid (V7.out.trans hu8 (fun _ h => h.elim)); clear hs8 hu8))
      go_ret
      exact ⟨rfl, (U5.out.trans V9.out (fun _ h => h.elim)).below0⟩
end Go.Proofs.Ytmpacmjlpkhgoaa
