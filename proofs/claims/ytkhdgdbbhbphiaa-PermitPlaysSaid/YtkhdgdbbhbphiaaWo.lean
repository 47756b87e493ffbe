/- PermitOthers, PermitNobody. -/
import Derived.Test.YtkhdgdbbhbphiaaPw
import Derived.Test.YtkhdgdbbhbphiaaSa
import Derived.Test.YtkhdgdbbhbphiaaArg
namespace Go.Proofs.Ytkhdgdbbhbphiaa
open Go.RowKit
set_option linter.unusedVariables false
set_option linter.unusedSimpArgs false

theorem hput_other {hs : List H2} {d h : H2} (hne : d ≠ h) : h ∈ hput hs d ↔ h ∈ hs := by
  unfold hput
  simp only [List.mem_cons, List.mem_filter, decide_eq_true_eq]
  constructor
  · rintro (rfl | h1)
    · exact absurd rfl hne
    · exact h1.1
  · exact fun h1 => .inr ⟨h1, Ne.symm hne⟩
theorem pdo_other {hs : List H2} {most kd : Int} {d h : H2} (hne : d ≠ h) : h ∈ pdo most hs kd d ↔ h ∈ hs := by
  unfold pdo ptake
  split
  · split
    · exact hput_other hne
    · exact Iff.rfl
  · unfold hwo
    simp only [List.mem_filter, decide_eq_true_eq]
    exact ⟨fun h1 => h1.1, fun h1 => ⟨h1, Ne.symm hne⟩⟩
set_option maxHeartbeats 1000000 in
theorem pothers_any (L : Option Addr) (len cap : Nat) (l : List P3) (hl : l.length = len) (hm : len ≤ 9223372036854775807) (hwf : Wp l) (kd : Int) (d h : H2) (hd : hok d) (hh : hok h) (w : World) (hs : Sl w L len cap (fl p3 l)) :
    Calls Try.prog 3 #[.slice L len cap, dval kd d, hval h] w fun e w' => e = .returned (.bool true) ∧ Below w.heap.size w w' := by
  have HL := Lib.hid hl
  have HS := Lib.hid hs
  have HWF := Lib.hid hwf
  have HD := Lib.hid hd
  have HH := Lib.hid hh
  have U0 := Lib.hid (((Upd.refl (fun _ => False) w).alloc (.cells #[.int .i64 kd, .int .i64 d.1, .int .i64 d.2] 26)).alloc (.cells #[.int .i64 h.1, .int .i64 h.2] 24))
  have B1 := Lib.hid ((Blk.new w #[.int .i64 kd, .int .i64 d.1, .int .i64 d.2] 26).alloc (.cells #[.int .i64 h.1, .int .i64 h.2] 24))
  have B2 := Lib.hid (Blk.new1 w (.cells #[.int .i64 kd, .int .i64 d.1, .int .i64 d.2] 26) #[.int .i64 h.1, .int .i64 h.2] 24)
  clear hl hs hwf hd hh
  go_enter Try.func3, Try.ntmps3
  go_wp2_with fail
  refine (awake_any _).mono ?_
  rintro e_ w1 ⟨rfl, hu⟩
  have U1 := Lib.hid (U0.out.trans hu (fun _ h => h.elim))
  have B11 := Lib.hid (B1.out.upd hu (fun h => h))
  have B12 := Lib.hid (B2.out.upd hu (fun h => h))
  clear hu U0 B1 B2
  go_wp2_with fail
  refine (ran_to L len cap l HL.out hm HWF.out _ (HS.out.upd0 U1.out)).mono ?_
  rintro e_ w2 ⟨g, rfl, b, hs, hp, hlen, hg, hb, hu⟩
  have P2 := Lib.hid hp
  have U2 := Lib.hid (U1.out.trans hu (fun _ h => h.elim))
  have HBN : Hid (w1.heap.size ≤ b) := Lib.hid hb
  have HBL : Hid (w.heap.size + 1 < w1.heap.size) := Lib.hid B12.out.lt
  have B21 := Lib.hid (B11.out.upd hu (fun h => h))
  have B22 := Lib.hid (B12.out.upd hu (fun h => h))
  clear hp hg hb hu U1 B11 B12
  have d0_ : w2.cell? ⟨w.heap.size, 0, none⟩ = some (.int .i64 kd) := B21.out.cell 0
  have d1_ : w2.cell? ⟨w.heap.size, 1, none⟩ = some (.int .i64 d.1) := B21.out.cell 1
  have d2_ : w2.cell? ⟨w.heap.size, 2, none⟩ = some (.int .i64 d.2) := B21.out.cell 2
  have dl_ := B21.out.lt
  have h0_ : w2.cell? ⟨w.heap.size + 1, 0, none⟩ = some (.int .i64 h.1) := B22.out.cell 0
  have h1_ : w2.cell? ⟨w.heap.size + 1, 1, none⟩ = some (.int .i64 h.2) := B22.out.cell 1
  have hl_ := B22.out.lt
  have heq := eqI d h
  have hgd := gdH
  by_cases hc : d = h
  · simp only [decide_eq_true hc] at heq
    clear hc
    go_wp2
    go_ret
    exact ⟨rfl, U2.out.below0⟩
  · simp only [decide_eq_false hc] at heq
    have HNE := Lib.hid hc
    clear hc
    go_wp2_with fail
    refine (made_to h _).mono ?_
    rintro e_ w3 ⟨rfl, hu⟩
    have U3 := Lib.hid (U2.out.trans hu (fun _ h => h.elim))
    have P3 := Lib.hid (P2.out.upd0 hu)
    have B31 := Lib.hid (B21.out.upd hu (fun h => h))
    have B32 := Lib.hid (B22.out.upd hu (fun h => h))
    clear hu U2 P2 B21 B22 d0_ d1_ d2_ dl_ h0_ h1_ hl_ heq
    go_wp2_with fail
    refine (holds_to HH.out _ P3.out).mono ?_
    rintro e_ w4 ⟨rfl, hu⟩
    have U4 := Lib.hid (U3.out.trans hu (fun _ h => h.elim))
    have P4 := Lib.hid (P3.out.upd0 hu)
    have B41 := Lib.hid (B31.out.upd hu (fun h => h))
    have B42 := Lib.hid (B32.out.upd hu (fun h => h))
    clear hu U3 P3 B31 B32
    obtain ⟨x, hx⟩ : ∃ x, decide (h ∈ hs) = x := ⟨_, rfl⟩
    rw [hx]
    have HX := Lib.hid hx
    clear hx
    have d0_ : w4.cell? ⟨w.heap.size, 0, none⟩ = some (.int .i64 kd) := B41.out.cell 0
    have d1_ : w4.cell? ⟨w.heap.size, 1, none⟩ = some (.int .i64 d.1) := B41.out.cell 1
    have d2_ : w4.cell? ⟨w.heap.size, 2, none⟩ = some (.int .i64 d.2) := B41.out.cell 2
    have dl_ := B41.out.lt
    go_wp2_with fail
    refine (do_to (kd := kd) (h := d) (l := []) (n := 0) HD.out (by omega) rfl (by omega) _ P4.out (Sl.zero _)).mono ?_
    rintro e_ w5 ⟨A', n', c', rfl, _, _, hp, hu⟩
    have U5 := Lib.hid (U4.out.trans hu (fun i hi => .inr (by rw [show i = b from hi]; have := HBN.out; have := HBL.out; omega)))
    have P5 := Lib.hid hp
    have B52 := Lib.hid (B42.out.upd hu (show ¬ At b (w.heap.size + 1) by have h1 := HBN.out; have h2 := HBL.out; unfold At; omega))
    clear hp hu U4 P4 B41 B42 d0_ d1_ d2_ dl_
    have h0_ : w5.cell? ⟨w.heap.size + 1, 0, none⟩ = some (.int .i64 h.1) := B52.out.cell 0
    have h1_ : w5.cell? ⟨w.heap.size + 1, 1, none⟩ = some (.int .i64 h.2) := B52.out.cell 1
    have hl_ := B52.out.lt
    go_wp2_with fail
    refine (made_to h _).mono ?_
    rintro e_ w6 ⟨rfl, hu⟩
    have U6 := Lib.hid (U5.out.trans hu (fun _ h => h.elim))
    have P6 := Lib.hid (P5.out.upd0 hu)
    clear hu U5 P5 B52 h0_ h1_ hl_
    go_wp2_with fail
    refine (holds_to HH.out _ P6.out).mono ?_
    rintro e_ w7 ⟨rfl, hu⟩
    have U7 := Lib.hid (U6.out.trans hu (fun _ h => h.elim))
    rw [show decide (h ∈ pdo 4 hs kd d) = x by rw [← HX.out]; exact decide_eq_decide.2 (pdo_other HNE.out)]
    clear hu
    cases x
    · go_wp2
      go_ret
      exact ⟨rfl, U7.out.below0⟩
    · go_wp2
      go_ret
      exact ⟨rfl, U7.out.below0⟩
theorem all_nil (w : World) : Calls Try.prog 17 #[.pointer none] w fun e w' => e = .returned (.slice none 0 0) ∧ Upd (fun _ => False) w w' := by
  go_enter Try.func17, Try.ntmps17
  go_wp2
  go_ret
  exact ⟨rfl, (by repeat (first | exact Upd.refl _ _ | refine Upd.alloc ?_ _ | refine Upd.drew ?_ | refine Upd.drewN ?_ _ | refine Upd.put ?_ _ _))⟩
set_option maxHeartbeats 1000000 in
theorem pnobody_any (h : H2) (hh : hok h) (w : World) : Calls Try.prog 8 #[hval h] w fun e w' => e = .returned (.bool true) ∧ Below w.heap.size w w' := by
  have HH := Lib.hid hh
  have U0 := Lib.hid ((Upd.refl (fun _ => False) w).alloc (.cells #[.int .i64 h.1, .int .i64 h.2] 24))
  have B0 := Lib.hid (Blk.new w #[.int .i64 h.1, .int .i64 h.2] 24)
  clear hh
  go_enter Try.func8, Try.ntmps8
  go_wp2_with fail
  refine (awake_any _).mono ?_
  rintro e_ w1 ⟨rfl, hu⟩
  have U1 := Lib.hid (U0.out.trans hu (fun _ h => h.elim))
  have B1 := Lib.hid (B0.out.upd hu (fun h => h))
  clear hu U0 B0
  have h0_ : w1.cell? ⟨w.heap.size, 0, none⟩ = some (.int .i64 h.1) := B1.out.cell 0
  have h1_ : w1.cell? ⟨w.heap.size, 1, none⟩ = some (.int .i64 h.2) := B1.out.cell 1
  have hl_ := B1.out.lt
  go_wp2_with fail
  refine (pnew_yes (by decide) (by decide) _).mono ?_
  rintro e_ w2 ⟨g, b, rfl, hp, hg, hb, hu⟩
  have P2 := Lib.hid hp
  have HBN : Hid (w1.heap.size ≤ b) := Lib.hid hb
  have HB0 : Hid (w.heap.size < w1.heap.size) := Lib.hid B1.out.lt
  clear hp hg hb
  have U2 := Lib.hid (U1.out.trans hu (fun _ h => h.elim))
  have B2 := Lib.hid (B1.out.upd hu (fun h => h))
  clear hu U1 B1 h0_ h1_ hl_
  have h0_ : w2.cell? ⟨w.heap.size, 0, none⟩ = some (.int .i64 h.1) := B2.out.cell 0
  have h1_ : w2.cell? ⟨w.heap.size, 1, none⟩ = some (.int .i64 h.2) := B2.out.cell 1
  have hl_ := B2.out.lt
  go_wp2_with fail
  refine (made_to h _).mono ?_
  rintro e_ w3 ⟨rfl, hu⟩
  have U3 := Lib.hid (U2.out.trans hu (fun _ h => h.elim))
  have B3 := Lib.hid (B2.out.upd hu (fun h => h))
  have P3 := Lib.hid (P2.out.upd0 hu)
  clear P2
  clear hu U2 B2 h0_ h1_ hl_
  have h0_ : w3.cell? ⟨w.heap.size, 0, none⟩ = some (.int .i64 h.1) := B3.out.cell 0
  have h1_ : w3.cell? ⟨w.heap.size, 1, none⟩ = some (.int .i64 h.2) := B3.out.cell 1
  have hl_ := B3.out.lt
  go_wp2_with fail
  refine (take_nil _).mono ?_
  rintro e_ w4 ⟨rfl, hu⟩
  have U4 := Lib.hid (U3.out.trans hu (fun _ h => h.elim))
  have B4 := Lib.hid (B3.out.upd hu (fun h => h))
  have P4 := Lib.hid (P3.out.upd0 hu)
  clear P3
  clear hu U3 B3 h0_ h1_ hl_
  have h0_ : w4.cell? ⟨w.heap.size, 0, none⟩ = some (.int .i64 h.1) := B4.out.cell 0
  have h1_ : w4.cell? ⟨w.heap.size, 1, none⟩ = some (.int .i64 h.2) := B4.out.cell 1
  have hl_ := B4.out.lt
  go_wp2_with fail
  refine (made_to h _).mono ?_
  rintro e_ w5 ⟨rfl, hu⟩
  have U5 := Lib.hid (U4.out.trans hu (fun _ h => h.elim))
  have B5 := Lib.hid (B4.out.upd hu (fun h => h))
  have P5 := Lib.hid (P4.out.upd0 hu)
  clear P4
  clear hu U4 B4 h0_ h1_ hl_
  have h0_ : w5.cell? ⟨w.heap.size, 0, none⟩ = some (.int .i64 h.1) := B5.out.cell 0
  have h1_ : w5.cell? ⟨w.heap.size, 1, none⟩ = some (.int .i64 h.2) := B5.out.cell 1
  have hl_ := B5.out.lt
  go_wp2_with fail
  refine (free_nil _).mono ?_
  rintro e_ w6 ⟨rfl, hu⟩
  have U6 := Lib.hid (U5.out.trans hu (fun _ h => h.elim))
  have B6 := Lib.hid (B5.out.upd hu (fun h => h))
  have P6 := Lib.hid (P5.out.upd0 hu)
  clear P5
  clear hu U5 B5 h0_ h1_ hl_
  have h0_ : w6.cell? ⟨w.heap.size, 0, none⟩ = some (.int .i64 h.1) := B6.out.cell 0
  have h1_ : w6.cell? ⟨w.heap.size, 1, none⟩ = some (.int .i64 h.2) := B6.out.cell 1
  have hl_ := B6.out.lt
  go_wp2_with fail
  refine (made_to h _).mono ?_
  rintro e_ w7 ⟨rfl, hu⟩
  have U7 := Lib.hid (U6.out.trans hu (fun _ h => h.elim))
  have B7 := Lib.hid (B6.out.upd hu (fun h => h))
  have P7 := Lib.hid (P6.out.upd0 hu)
  clear P6
  clear hu U6 B6 h0_ h1_ hl_
  have h0_ : w7.cell? ⟨w.heap.size, 0, none⟩ = some (.int .i64 h.1) := B7.out.cell 0
  have h1_ : w7.cell? ⟨w.heap.size, 1, none⟩ = some (.int .i64 h.2) := B7.out.cell 1
  have hl_ := B7.out.lt
  go_wp2_with fail
  refine (holds_nil _).mono ?_
  rintro e_ w8 ⟨rfl, hu⟩
  have U8 := Lib.hid (U7.out.trans hu (fun _ h => h.elim))
  have B8 := Lib.hid (B7.out.upd hu (fun h => h))
  have P8 := Lib.hid (P7.out.upd0 hu)
  clear P7
  clear hu U7 B7 h0_ h1_ hl_
  have h0_ : w8.cell? ⟨w.heap.size, 0, none⟩ = some (.int .i64 h.1) := B8.out.cell 0
  have h1_ : w8.cell? ⟨w.heap.size, 1, none⟩ = some (.int .i64 h.2) := B8.out.cell 1
  have hl_ := B8.out.lt
  go_wp2_with fail
  refine (used_nil _).mono ?_
  rintro e_ w9 ⟨rfl, hu⟩
  have U9 := Lib.hid (U8.out.trans hu (fun _ h => h.elim))
  have B9 := Lib.hid (B8.out.upd hu (fun h => h))
  have P9 := Lib.hid (P8.out.upd0 hu)
  clear P8
  clear hu U8 B8 h0_ h1_ hl_
  have h0_ : w9.cell? ⟨w.heap.size, 0, none⟩ = some (.int .i64 h.1) := B9.out.cell 0
  have h1_ : w9.cell? ⟨w.heap.size, 1, none⟩ = some (.int .i64 h.2) := B9.out.cell 1
  have hl_ := B9.out.lt
  go_wp2_with fail
  refine (room_nil _).mono ?_
  rintro e_ w10 ⟨rfl, nq, hq⟩
  have hu : Upd (fun _ => False) w9 w10 := hq ▸ (Upd.refl _ _).drewN nq
  clear hq
  have U10 := Lib.hid (U9.out.trans hu (fun _ h => h.elim))
  have B10 := Lib.hid (B9.out.upd hu (fun h => h))
  have P10 := Lib.hid (P9.out.upd0 hu)
  clear P9
  clear hu U9 B9 h0_ h1_ hl_
  have h0_ : w10.cell? ⟨w.heap.size, 0, none⟩ = some (.int .i64 h.1) := B10.out.cell 0
  have h1_ : w10.cell? ⟨w.heap.size, 1, none⟩ = some (.int .i64 h.2) := B10.out.cell 1
  have hl_ := B10.out.lt
  go_wp2_with fail
  refine (all_nil _).mono ?_
  rintro e_ w11 ⟨rfl, hu⟩
  have U11 := Lib.hid (U10.out.trans hu (fun _ h => h.elim))
  have B11 := Lib.hid (B10.out.upd hu (fun h => h))
  have P11 := Lib.hid (P10.out.upd0 hu)
  clear P10
  clear hu U10 B10 h0_ h1_ hl_
  have h0_ : w11.cell? ⟨w.heap.size, 0, none⟩ = some (.int .i64 h.1) := B11.out.cell 0
  have h1_ : w11.cell? ⟨w.heap.size, 1, none⟩ = some (.int .i64 h.2) := B11.out.cell 1
  have hl_ := B11.out.lt
  go_wp2_with fail
  refine (made_to h _).mono ?_
  rintro e_ w12 ⟨rfl, hu⟩
  have U12 := Lib.hid (U11.out.trans hu (fun _ h => h.elim))
  have B12 := Lib.hid (B11.out.upd hu (fun h => h))
  have P12 := Lib.hid (P11.out.upd0 hu)
  clear P11
  clear hu U11 B11 h0_ h1_ hl_
  have h0_ : w12.cell? ⟨w.heap.size, 0, none⟩ = some (.int .i64 h.1) := B12.out.cell 0
  have h1_ : w12.cell? ⟨w.heap.size, 1, none⟩ = some (.int .i64 h.2) := B12.out.cell 1
  have hl_ := B12.out.lt
  go_wp2_with fail
  refine (take_to HH.out (by decide) _ P12.out).mono ?_
  rintro e_ w13 ⟨rfl, hp, hu⟩
  rw [show ptakes 0 [] h = false from rfl]
  rw [show ptake 0 [] h = [] from rfl] at hp
  have U13 := Lib.hid (U12.out.trans hu (fun i hi => .inr (by rw [show i = b from hi]; have := HBN.out; have := HB0.out; omega)))
  have B13 := Lib.hid (B12.out.upd hu (show ¬ At b w.heap.size by have h1 := HBN.out; have h2 := HB0.out; unfold At; omega))
  have P13 := Lib.hid hp
  clear hp P12
  clear hu U12 B12 h0_ h1_ hl_
  have h0_ : w13.cell? ⟨w.heap.size, 0, none⟩ = some (.int .i64 h.1) := B13.out.cell 0
  have h1_ : w13.cell? ⟨w.heap.size, 1, none⟩ = some (.int .i64 h.2) := B13.out.cell 1
  have hl_ := B13.out.lt
  go_wp2_with fail
  refine (room_to _ P13.out).mono ?_
  rintro e_ w14 ⟨rfl, nq, hq⟩
  have hu : Upd (fun _ => False) w13 w14 := hq ▸ (Upd.refl _ _).drewN nq
  clear hq
  have U14 := Lib.hid (U13.out.trans hu (fun _ h => h.elim))
  have B14 := Lib.hid (B13.out.upd hu (fun h => h))
  have P14 := Lib.hid (P13.out.upd0 hu)
  clear P13
  clear hu U13 B13 h0_ h1_ hl_
  have h0_ : w14.cell? ⟨w.heap.size, 0, none⟩ = some (.int .i64 h.1) := B14.out.cell 0
  have h1_ : w14.cell? ⟨w.heap.size, 1, none⟩ = some (.int .i64 h.2) := B14.out.cell 1
  have hl_ := B14.out.lt
  go_wp2_with fail
  refine (used_to _ P14.out).mono ?_
  rintro e_ w15 ⟨rfl, hu⟩
  have U15 := Lib.hid (U14.out.trans hu (fun _ h => h.elim))
  have B15 := Lib.hid (B14.out.upd hu (fun h => h))
  have P15 := Lib.hid (P14.out.upd0 hu)
  clear P14
  clear hu U14 B14 h0_ h1_ hl_
  have h0_ : w15.cell? ⟨w.heap.size, 0, none⟩ = some (.int .i64 h.1) := B15.out.cell 0
  have h1_ : w15.cell? ⟨w.heap.size, 1, none⟩ = some (.int .i64 h.2) := B15.out.cell 1
  have hl_ := B15.out.lt
  go_wp2
  go_ret
  exact ⟨rfl, U15.out.below0⟩
theorem p3_dec : ∀ row, Oks [.int .i64, .int .i64, .int .i64] row → ∃ a, row = p3 a ∧ hok a.2 := by
  intro row h
  obtain ⟨v0, r0, e0, ⟨x, rfl, h0⟩, h1⟩ := h.cons
  obtain ⟨v1, r1, e1, ⟨y, rfl, h2⟩, h3⟩ := h1.cons
  obtain ⟨v2, r2, e2, ⟨z, rfl, h4⟩, h5⟩ := h3.cons
  have := h5.nil
  subst this e2 e1 e0
  exact ⟨(x, y, z), rfl, h2, h4⟩
theorem arr3 {c : Array Value} (h : Oks [.int .i64, .int .i64, .int .i64] c.toList) : ∃ kd : Int, ∃ d : H2, c = #[.int .i64 kd, .int .i64 d.1, .int .i64 d.2] ∧ hok d ∧ (Lit.int .i64 kd).wf = true := by
  obtain ⟨c⟩ := c
  obtain ⟨v0, r0, e0, ⟨x, rfl, h0⟩, h1⟩ := h.cons
  obtain ⟨v1, r1, e1, ⟨y, rfl, h2⟩, h3⟩ := h1.cons
  obtain ⟨v2, r2, e2, ⟨z, rfl, h4⟩, h5⟩ := h3.cons
  have := h5.nil
  subst this
  simp only at e0
  exact ⟨x, (y, z), by rw [e0, e1, e2], ⟨h2, h4⟩, h0⟩
theorem arr2 {c : Array Value} (h : Oks [.int .i64, .int .i64] c.toList) : ∃ d : H2, c = #[.int .i64 d.1, .int .i64 d.2] ∧ hok d := by
  obtain ⟨c⟩ := c
  obtain ⟨v0, r0, e0, ⟨x, rfl, h0⟩, h1⟩ := h.cons
  obtain ⟨v1, r1, e1, ⟨y, rfl, h2⟩, h3⟩ := h1.cons
  have := h3.nil
  subst this
  simp only at e0
  exact ⟨(x, y), by rw [e0, e1], ⟨h0, h2⟩⟩
theorem pothers_walk {w : World} (A9 : Option Addr) (len9 cap9 : Nat) (L9 : List (List Value)) (hL9 : L9.length = len9) (hlc9 : len9 ≤ cap9) (hm9 : cap9 ≤ maxLen) (hn9 : A9 = none → len9 = 0 ∧ cap9 = 0) (hok9 : ∀ row ∈ L9, Oks [.int .i64, .int .i64, .int .i64] row) (hr9 : Rows w A9 3 L9)
    (c1 : Array Value) (w1 : Oks [.int .i64, .int .i64, .int .i64] c1.toList) (c2 : Array Value) (w2 : Oks [.int .i64, .int .i64] c2.toList) :
    Calls Try.prog 3 #[.slice A9 len9 cap9, .agg c1, .agg c2] w fun e w' => e = .returned (.bool true) ∧ Below w.heap.size w w' := by
  obtain ⟨l, hl, hwf, hs⟩ := sl_rows (enc := p3) p3_len (by decide) p3_dec hL9 hlc9 hm9 hn9 hok9 hr9
  unfold maxLen at hm9
  obtain ⟨kd, d, rfl, hd, _⟩ := arr3 w1
  obtain ⟨h, rfl, hh⟩ := arr2 w2
  exact pothers_any A9 len9 cap9 l hl (by omega) hwf kd d h hd hh w hs
theorem pnobody_walk {w : World} (c0 : Array Value) (w0 : Oks [.int .i64, .int .i64] c0.toList) :
    Calls Try.prog 8 #[.agg c0] w fun e w' => e = .returned (.bool true) ∧ Below w.heap.size w w' := by
  obtain ⟨h, rfl, hh⟩ := arr2 w0
  exact pnobody_any h hh w
end Go.Proofs.Ytkhdgdbbhbphiaa
