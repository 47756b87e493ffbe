/- PermitBack. -/
import Derived.Test.YtkhdgdbbhbphiaaPs
import Derived.Test.YtkhdgdbbhbphiaaWo
namespace Go.Proofs.Ytkhdgdbbhbphiaa
open Go.RowKit
set_option linter.unusedVariables false
set_option linter.unusedSimpArgs false

set_option maxHeartbeats 4000000 in
theorem pback_any (L : Option Addr) (len cap : Nat) (l : List P3) (hl : l.length = len) (hm : len ≤ 9223372036854775807) (hwf : Wp l) (h : H2) (hh : hok h) (w : World) (hs0 : Sl w L len cap (fl p3 l)) :
    Calls Try.prog 6 #[.slice L len cap, hval h] w fun e w' => e = .returned (.bool true) ∧ Below w.heap.size w w' := by
  have HH := Lib.hid hh
  have HL := Lib.hid hl
  have HS := Lib.hid hs0
  have HWF := Lib.hid hwf
  have U0 := Lib.hid ((Upd.refl (fun _ => False) w).alloc (.cells #[.int .i64 h.1, .int .i64 h.2] 24))
  have B0 := Lib.hid (Blk.new w #[.int .i64 h.1, .int .i64 h.2] 24)
  clear hh hl hs0 hwf
  go_enter Try.func6, Try.ntmps6
  go_wp2_with fail
  refine (awake_any _).mono ?_
  rintro e_ w1 ⟨rfl, hu⟩
  have U1 := Lib.hid (U0.out.trans hu (fun _ h => h.elim))
  have B1 := Lib.hid (B0.out.upd hu (fun h => h))
  clear hu U0 B0 
  have h0_ : w1.cell? ⟨w.heap.size, 0, none⟩ = some (.int .i64 h.1) := B1.out.cell 0
  have h1_ : w1.cell? ⟨w.heap.size, 1, none⟩ = some (.int .i64 h.2) := B1.out.cell 1
  have hl_ := B1.out.lt
  go_wp2_with fail
  refine (ran_to L len cap l HL.out hm HWF.out _ (HS.out.upd0 U1.out)).mono ?_
  rintro e_ w2 ⟨g, rfl, b, hs, hp, hlen, hg, hb, hu⟩
  have P2 := Lib.hid hp
  have HLEN := Lib.hid hlen
  have HBN : Hid (w1.heap.size ≤ b) := Lib.hid hb
  have HB0 : Hid (w.heap.size < w1.heap.size) := Lib.hid B1.out.lt
  clear hp hg hb hlen
  have U2 := Lib.hid (U1.out.trans hu (fun _ h => h.elim))
  have B2 := Lib.hid (B1.out.upd hu (fun h => h))
  clear hu U1 B1  h0_ h1_ hl_
  have h0_ : w2.cell? ⟨w.heap.size, 0, none⟩ = some (.int .i64 h.1) := B2.out.cell 0
  have h1_ : w2.cell? ⟨w.heap.size, 1, none⟩ = some (.int .i64 h.2) := B2.out.cell 1
  have hl_ := B2.out.lt
  go_wp2_with fail
  refine (all_to (Nat.le_trans HLEN.out (by decide)) _ P2.out).mono ?_
  rintro e_ w3 ⟨A1, n1, c1, l1, rfl, hpm, hri, hln, hsl, hu⟩
  have S1 := Lib.hid hsl
  have Q1 := Lib.hid (show l1.Perm _ ∧ Rising l1 ∧ l1.length = n1 from ⟨hpm, hri, hln⟩)
  clear hsl hpm hri hln
  have U3 := Lib.hid (U2.out.trans hu (fun _ h => h.elim))
  have B3 := Lib.hid (B2.out.upd hu (fun h => h))
  have P3 := Lib.hid (P2.out.upd0 hu)
  clear P2
  clear hu U2 B2  h0_ h1_ hl_
  have h0_ : w3.cell? ⟨w.heap.size, 0, none⟩ = some (.int .i64 h.1) := B3.out.cell 0
  have h1_ : w3.cell? ⟨w.heap.size, 1, none⟩ = some (.int .i64 h.2) := B3.out.cell 1
  have hl_ := B3.out.lt
  have S13 := S1
  clear S1
  have HN1 : Hid (n1 ≤ 1000) := Lib.hid (by have := Q1.out.1.length_eq; have := Q1.out.2.2; have := HLEN.out; omega)
  go_wp2_with fail
  refine (real_to Q1.out.2.2 HN1.out _ S13.out).mono ?_
  rintro e_ w4 ⟨Aw, cw, rfl, hsl, hu⟩
  have Sw := Lib.hid hsl
  clear hsl
  have U4 := Lib.hid (U3.out.trans hu (fun _ h => h.elim))
  have B4 := Lib.hid (B3.out.upd hu (fun h => h))
  have P4 := Lib.hid (P3.out.upd0 hu)
  clear P3
  have S14 := Lib.hid (S13.out.upd0 hu)
  clear hu U3 B3 S13 h0_ h1_ hl_
  have h0_ : w4.cell? ⟨w.heap.size, 0, none⟩ = some (.int .i64 h.1) := B4.out.cell 0
  have h1_ : w4.cell? ⟨w.heap.size, 1, none⟩ = some (.int .i64 h.2) := B4.out.cell 1
  have hl_ := B4.out.lt
  have Sw4 := Sw
  clear Sw
  go_wp2_with fail
  refine (made_to h _).mono ?_
  rintro e_ w5 ⟨rfl, hu⟩
  have U5 := Lib.hid (U4.out.trans hu (fun _ h => h.elim))
  have B5 := Lib.hid (B4.out.upd hu (fun h => h))
  have P5 := Lib.hid (P4.out.upd0 hu)
  clear P4
  have S15 := Lib.hid (S14.out.upd0 hu)
  have Sw5 := Lib.hid (Sw4.out.upd0 hu)
  clear hu U4 B4 S14 Sw4 h0_ h1_ hl_
  have h0_ : w5.cell? ⟨w.heap.size, 0, none⟩ = some (.int .i64 h.1) := B5.out.cell 0
  have h1_ : w5.cell? ⟨w.heap.size, 1, none⟩ = some (.int .i64 h.2) := B5.out.cell 1
  have hl_ := B5.out.lt
  obtain ⟨hd, hhd⟩ : ∃ x, decide (h ∈ hs) = x := ⟨_, rfl⟩
  obtain ⟨rm, hrm⟩ : ∃ x, decide ((hs.length : Int) < 4) = x := ⟨_, rfl⟩
  have HHD := Lib.hid hhd
  have HRM := Lib.hid hrm
  have HPT : Hid (ptakes 4 hs h = (rm && !hd)) := Lib.hid (by unfold ptakes; rw [hrm, hhd])
  clear hhd hrm
  go_wp2_with fail
  refine (holds_to HH.out _ P5.out).mono ?_
  rintro e_ w6 ⟨rfl, hu⟩
  rw [HHD.out]
  have U6 := Lib.hid (U5.out.trans hu (fun _ h => h.elim))
  have B6 := Lib.hid (B5.out.upd hu (fun h => h))
  have P6 := Lib.hid (P5.out.upd0 hu)
  clear P5
  have S16 := Lib.hid (S15.out.upd0 hu)
  have Sw6 := Lib.hid (Sw5.out.upd0 hu)
  clear hu U5 B5 S15 Sw5 h0_ h1_ hl_
  have h0_ : w6.cell? ⟨w.heap.size, 0, none⟩ = some (.int .i64 h.1) := B6.out.cell 0
  have h1_ : w6.cell? ⟨w.heap.size, 1, none⟩ = some (.int .i64 h.2) := B6.out.cell 1
  have hl_ := B6.out.lt
  go_wp2_with fail
  refine (room_to _ P6.out).mono ?_
  rintro e_ w7 ⟨rfl, nq, hq⟩
  have hu : Upd (fun _ => False) w6 w7 := hq ▸ (Upd.refl _ _).drewN nq
  clear hq
  rw [HRM.out]
  have U7 := Lib.hid (U6.out.trans hu (fun _ h => h.elim))
  have B7 := Lib.hid (B6.out.upd hu (fun h => h))
  have P7 := Lib.hid (P6.out.upd0 hu)
  clear P6
  have S17 := Lib.hid (S16.out.upd0 hu)
  have Sw7 := Lib.hid (Sw6.out.upd0 hu)
  clear hu U6 B6 S16 Sw6 h0_ h1_ hl_
  have h0_ : w7.cell? ⟨w.heap.size, 0, none⟩ = some (.int .i64 h.1) := B7.out.cell 0
  have h1_ : w7.cell? ⟨w.heap.size, 1, none⟩ = some (.int .i64 h.2) := B7.out.cell 1
  have hl_ := B7.out.lt
  go_wp2_with fail
  refine (made_to h _).mono ?_
  rintro e_ w8 ⟨rfl, hu⟩
  have U8 := Lib.hid (U7.out.trans hu (fun _ h => h.elim))
  have B8 := Lib.hid (B7.out.upd hu (fun h => h))
  have P8 := Lib.hid (P7.out.upd0 hu)
  clear P7
  have S18 := Lib.hid (S17.out.upd0 hu)
  have Sw8 := Lib.hid (Sw7.out.upd0 hu)
  clear hu U7 B7 S17 Sw7 h0_ h1_ hl_
  have h0_ : w8.cell? ⟨w.heap.size, 0, none⟩ = some (.int .i64 h.1) := B8.out.cell 0
  have h1_ : w8.cell? ⟨w.heap.size, 1, none⟩ = some (.int .i64 h.2) := B8.out.cell 1
  have hl_ := B8.out.lt
  go_wp2_with fail
  refine (take_to HH.out (by decide) _ P8.out).mono ?_
  rintro e_ w9 ⟨rfl, hp, hu⟩
  rw [HPT.out]
  have U9 := Lib.hid (U8.out.trans hu (fun i hi => .inr (by rw [show i = b from hi]; have := HBN.out; have := HB0.out; omega)))
  have B9 := Lib.hid (B8.out.upd hu (show ¬ At b w.heap.size by have h1 := HBN.out; have h2 := HB0.out; unfold At; omega))
  have S19 := Lib.hid (P8.out.sl S18.out hu)
  have Sw9 := Lib.hid (P8.out.sl Sw8.out hu)
  have P9 := Lib.hid hp
  clear hp P8
  clear hu U8 B8 S18 Sw8 h0_ h1_ hl_
  have h0_ : w9.cell? ⟨w.heap.size, 0, none⟩ = some (.int .i64 h.1) := B9.out.cell 0
  have h1_ : w9.cell? ⟨w.heap.size, 1, none⟩ = some (.int .i64 h.2) := B9.out.cell 1
  have hl_ := B9.out.lt
  cases rm with
  | false =>
    cases hd with
    | false =>
      have HP0 : Hid (ptakes 4 hs h = false) := Lib.hid HPT.out
      have P9' : Hid (PS w9 g b 4 101 hs) := Lib.hid (by have := P9.out; rwa [ptake, if_neg (by rw [HP0.out]; simp)] at this)
      clear P9
      have P9 := P9'
      clear P9'
      go_wp2_with fail
      refine (made_to h _).mono ?_
      rintro e_ w10 ⟨rfl, hu⟩
      have U10 := Lib.hid (U9.out.trans hu (fun _ h => h.elim))
      have B10 := Lib.hid (B9.out.upd hu (fun h => h))
      have P10 := Lib.hid (P9.out.upd0 hu)
      clear P9
      have S110 := Lib.hid (S19.out.upd0 hu)
      have Sw10 := Lib.hid (Sw9.out.upd0 hu)
      clear hu U9 B9 S19 Sw9 h0_ h1_ hl_
      have h0_ : w10.cell? ⟨w.heap.size, 0, none⟩ = some (.int .i64 h.1) := B10.out.cell 0
      have h1_ : w10.cell? ⟨w.heap.size, 1, none⟩ = some (.int .i64 h.2) := B10.out.cell 1
      have hl_ := B10.out.lt
      go_wp2_with fail
      refine (take_to HH.out (by decide) _ P10.out).mono ?_
      rintro e_ w11 ⟨rfl, hp, hu⟩
      rw [HP0.out]
      rw [ptake, if_neg (by rw [HP0.out]; simp)] at hp
      have U11 := Lib.hid (U10.out.trans hu (fun i hi => .inr (by rw [show i = b from hi]; have := HBN.out; have := HB0.out; omega)))
      have B11 := Lib.hid (B10.out.upd hu (show ¬ At b w.heap.size by have h1 := HBN.out; have h2 := HB0.out; unfold At; omega))
      have S111 := Lib.hid (P10.out.sl S110.out hu)
      have Sw11 := Lib.hid (P10.out.sl Sw10.out hu)
      have P11 := Lib.hid hp
      clear hp P10
      clear hu U10 B10 S110 Sw10 h0_ h1_ hl_
      have h0_ : w11.cell? ⟨w.heap.size, 0, none⟩ = some (.int .i64 h.1) := B11.out.cell 0
      have h1_ : w11.cell? ⟨w.heap.size, 1, none⟩ = some (.int .i64 h.2) := B11.out.cell 1
      have hl_ := B11.out.lt
      go_wp2_with fail
      refine (all_to (Nat.le_trans HLEN.out (by decide)) _ P11.out).mono ?_
      rintro e_ w12 ⟨A3, n3, c3, l3, rfl, hpm, hri, hln, hsl, hu⟩
      have S3 := Lib.hid hsl
      have Q3 := Lib.hid (show l3.Perm _ ∧ Rising l3 ∧ l3.length = n3 from ⟨hpm, hri, hln⟩)
      clear hsl hpm hri hln
      have U12 := Lib.hid (U11.out.trans hu (fun _ h => h.elim))
      have B12 := Lib.hid (B11.out.upd hu (fun h => h))
      have P12 := Lib.hid (P11.out.upd0 hu)
      clear P11
      have S112 := Lib.hid (S111.out.upd0 hu)
      have Sw12 := Lib.hid (Sw11.out.upd0 hu)
      clear hu U11 B11 S111 Sw11 h0_ h1_ hl_
      have h0_ : w12.cell? ⟨w.heap.size, 0, none⟩ = some (.int .i64 h.1) := B12.out.cell 0
      have h1_ : w12.cell? ⟨w.heap.size, 1, none⟩ = some (.int .i64 h.2) := B12.out.cell 1
      have hl_ := B12.out.lt
      have S312 := S3
      clear S3
      have E3 : Hid (l3 = l1) := Lib.hid (rising_eq (Q3.out.1.trans Q1.out.1.symm) Q3.out.2.1 Q1.out.2.1)
      obtain rfl : n3 = n1 := by rw [← Q3.out.2.2, ← Q1.out.2.2, E3.out]
      go_wp2_with fail
      refine (real_to Q3.out.2.2 HN1.out _ S312.out).mono ?_
      rintro e_ w13 ⟨A4, c4, rfl, hsl, hu⟩
      have S4 := Lib.hid hsl
      clear hsl
      have U13 := Lib.hid (U12.out.trans hu (fun _ h => h.elim))
      have B13 := Lib.hid (B12.out.upd hu (fun h => h))
      have P13 := Lib.hid (P12.out.upd0 hu)
      clear P12
      have S113 := Lib.hid (S112.out.upd0 hu)
      have Sw13 := Lib.hid (Sw12.out.upd0 hu)
      have S313 := Lib.hid (S312.out.upd0 hu)
      clear hu U12 B12 S112 Sw12 S312 h0_ h1_ hl_
      have h0_ : w13.cell? ⟨w.heap.size, 0, none⟩ = some (.int .i64 h.1) := B13.out.cell 0
      have h1_ : w13.cell? ⟨w.heap.size, 1, none⟩ = some (.int .i64 h.2) := B13.out.cell 1
      have hl_ := B13.out.lt
      have S413 := S4
      clear S4
      rw [E3.out] at S413
      go_wp2_with fail
      refine (same_to Q1.out.2.2 HN1.out _ S413.out Sw13.out).mono ?_
      rintro e_ w14 ⟨rfl, hu⟩
      have U14 := Lib.hid (U13.out.trans hu (fun _ h => h.elim))
      have B14 := Lib.hid (B13.out.upd hu (fun h => h))
      have P14 := Lib.hid (P13.out.upd0 hu)
      clear P13
      have S114 := Lib.hid (S113.out.upd0 hu)
      have Sw14 := Lib.hid (Sw13.out.upd0 hu)
      have S314 := Lib.hid (S313.out.upd0 hu)
      have S414 := Lib.hid (S413.out.upd0 hu)
      clear hu U13 B13 S113 Sw13 S313 S413 h0_ h1_ hl_
      have h0_ : w14.cell? ⟨w.heap.size, 0, none⟩ = some (.int .i64 h.1) := B14.out.cell 0
      have h1_ : w14.cell? ⟨w.heap.size, 1, none⟩ = some (.int .i64 h.2) := B14.out.cell 1
      have hl_ := B14.out.lt
      go_wp2
      go_ret
      exact ⟨rfl, U14.out.below0⟩
    | true =>
      have HP0 : Hid (ptakes 4 hs h = false) := Lib.hid HPT.out
      have P9' : Hid (PS w9 g b 4 101 hs) := Lib.hid (by have := P9.out; rwa [ptake, if_neg (by rw [HP0.out]; simp)] at this)
      clear P9
      have P9 := P9'
      clear P9'
      go_wp2_with fail
      refine (made_to h _).mono ?_
      rintro e_ w10 ⟨rfl, hu⟩
      have U10 := Lib.hid (U9.out.trans hu (fun _ h => h.elim))
      have B10 := Lib.hid (B9.out.upd hu (fun h => h))
      have P10 := Lib.hid (P9.out.upd0 hu)
      clear P9
      have S110 := Lib.hid (S19.out.upd0 hu)
      have Sw10 := Lib.hid (Sw9.out.upd0 hu)
      clear hu U9 B9 S19 Sw9 h0_ h1_ hl_
      have h0_ : w10.cell? ⟨w.heap.size, 0, none⟩ = some (.int .i64 h.1) := B10.out.cell 0
      have h1_ : w10.cell? ⟨w.heap.size, 1, none⟩ = some (.int .i64 h.2) := B10.out.cell 1
      have hl_ := B10.out.lt
      go_wp2_with fail
      refine (take_to HH.out (by decide) _ P10.out).mono ?_
      rintro e_ w11 ⟨rfl, hp, hu⟩
      rw [HP0.out]
      rw [ptake, if_neg (by rw [HP0.out]; simp)] at hp
      have U11 := Lib.hid (U10.out.trans hu (fun i hi => .inr (by rw [show i = b from hi]; have := HBN.out; have := HB0.out; omega)))
      have B11 := Lib.hid (B10.out.upd hu (show ¬ At b w.heap.size by have h1 := HBN.out; have h2 := HB0.out; unfold At; omega))
      have S111 := Lib.hid (P10.out.sl S110.out hu)
      have Sw11 := Lib.hid (P10.out.sl Sw10.out hu)
      have P11 := Lib.hid hp
      clear hp P10
      clear hu U10 B10 S110 Sw10 h0_ h1_ hl_
      have h0_ : w11.cell? ⟨w.heap.size, 0, none⟩ = some (.int .i64 h.1) := B11.out.cell 0
      have h1_ : w11.cell? ⟨w.heap.size, 1, none⟩ = some (.int .i64 h.2) := B11.out.cell 1
      have hl_ := B11.out.lt
      go_wp2_with fail
      refine (all_to (Nat.le_trans HLEN.out (by decide)) _ P11.out).mono ?_
      rintro e_ w12 ⟨A3, n3, c3, l3, rfl, hpm, hri, hln, hsl, hu⟩
      have S3 := Lib.hid hsl
      have Q3 := Lib.hid (show l3.Perm _ ∧ Rising l3 ∧ l3.length = n3 from ⟨hpm, hri, hln⟩)
      clear hsl hpm hri hln
      have U12 := Lib.hid (U11.out.trans hu (fun _ h => h.elim))
      have B12 := Lib.hid (B11.out.upd hu (fun h => h))
      have P12 := Lib.hid (P11.out.upd0 hu)
      clear P11
      have S112 := Lib.hid (S111.out.upd0 hu)
      have Sw12 := Lib.hid (Sw11.out.upd0 hu)
      clear hu U11 B11 S111 Sw11 h0_ h1_ hl_
      have h0_ : w12.cell? ⟨w.heap.size, 0, none⟩ = some (.int .i64 h.1) := B12.out.cell 0
      have h1_ : w12.cell? ⟨w.heap.size, 1, none⟩ = some (.int .i64 h.2) := B12.out.cell 1
      have hl_ := B12.out.lt
      have S312 := S3
      clear S3
      have E3 : Hid (l3 = l1) := Lib.hid (rising_eq (Q3.out.1.trans Q1.out.1.symm) Q3.out.2.1 Q1.out.2.1)
      obtain rfl : n3 = n1 := by rw [← Q3.out.2.2, ← Q1.out.2.2, E3.out]
      go_wp2_with fail
      refine (real_to Q3.out.2.2 HN1.out _ S312.out).mono ?_
      rintro e_ w13 ⟨A4, c4, rfl, hsl, hu⟩
      have S4 := Lib.hid hsl
      clear hsl
      have U13 := Lib.hid (U12.out.trans hu (fun _ h => h.elim))
      have B13 := Lib.hid (B12.out.upd hu (fun h => h))
      have P13 := Lib.hid (P12.out.upd0 hu)
      clear P12
      have S113 := Lib.hid (S112.out.upd0 hu)
      have Sw13 := Lib.hid (Sw12.out.upd0 hu)
      have S313 := Lib.hid (S312.out.upd0 hu)
      clear hu U12 B12 S112 Sw12 S312 h0_ h1_ hl_
      have h0_ : w13.cell? ⟨w.heap.size, 0, none⟩ = some (.int .i64 h.1) := B13.out.cell 0
      have h1_ : w13.cell? ⟨w.heap.size, 1, none⟩ = some (.int .i64 h.2) := B13.out.cell 1
      have hl_ := B13.out.lt
      have S413 := S4
      clear S4
      rw [E3.out] at S413
      go_wp2_with fail
      refine (same_to Q1.out.2.2 HN1.out _ S413.out Sw13.out).mono ?_
      rintro e_ w14 ⟨rfl, hu⟩
      have U14 := Lib.hid (U13.out.trans hu (fun _ h => h.elim))
      have B14 := Lib.hid (B13.out.upd hu (fun h => h))
      have P14 := Lib.hid (P13.out.upd0 hu)
      clear P13
      have S114 := Lib.hid (S113.out.upd0 hu)
      have Sw14 := Lib.hid (Sw13.out.upd0 hu)
      have S314 := Lib.hid (S313.out.upd0 hu)
      have S414 := Lib.hid (S413.out.upd0 hu)
      clear hu U13 B13 S113 Sw13 S313 S413 h0_ h1_ hl_
      have h0_ : w14.cell? ⟨w.heap.size, 0, none⟩ = some (.int .i64 h.1) := B14.out.cell 0
      have h1_ : w14.cell? ⟨w.heap.size, 1, none⟩ = some (.int .i64 h.2) := B14.out.cell 1
      have hl_ := B14.out.lt
      go_wp2
      go_ret
      exact ⟨rfl, U14.out.below0⟩
  | true =>
    cases hd with
    | false =>
      have HNH : Hid (h ∉ hs) := Lib.hid (of_decide_eq_false HHD.out)
      have HP0 : Hid (ptakes 4 hs h = true) := Lib.hid HPT.out
      have P9' : Hid (PS w9 g b 4 101 (hput hs h)) := Lib.hid (by have := P9.out; rwa [ptake, if_pos HP0.out] at this)
      clear P9
      have P9 := P9'
      clear P9'
      have HIN : Hid (h ∈ hput hs h) := Lib.hid (by simp [hput])
      have HPF : Hid (ptakes 4 (hput hs h) h = false) := Lib.hid (by unfold ptakes; rw [decide_eq_true HIN.out]; simp)
      have HBK : Hid (hwo (hput hs h) h = hs) := Lib.hid (by have h1 := hwo_none HNH.out; unfold hput hwo at *; rw [List.filter_cons_of_neg (by simp), List.filter_filter]; simpa using h1)
      go_wp2_with fail
      refine (made_to h _).mono ?_
      rintro e_ w10 ⟨rfl, hu⟩
      have U10 := Lib.hid (U9.out.trans hu (fun _ h => h.elim))
      have B10 := Lib.hid (B9.out.upd hu (fun h => h))
      have P10 := Lib.hid (P9.out.upd0 hu)
      clear P9
      have S110 := Lib.hid (S19.out.upd0 hu)
      have Sw10 := Lib.hid (Sw9.out.upd0 hu)
      clear hu U9 B9 S19 Sw9 h0_ h1_ hl_
      have h0_ : w10.cell? ⟨w.heap.size, 0, none⟩ = some (.int .i64 h.1) := B10.out.cell 0
      have h1_ : w10.cell? ⟨w.heap.size, 1, none⟩ = some (.int .i64 h.2) := B10.out.cell 1
      have hl_ := B10.out.lt
      go_wp2_with fail
      refine (take_to HH.out (by decide) _ P10.out).mono ?_
      rintro e_ w11 ⟨rfl, hp, hu⟩
      rw [HPF.out]
      rw [ptake, if_neg (by rw [HPF.out]; simp)] at hp
      have U11 := Lib.hid (U10.out.trans hu (fun i hi => .inr (by rw [show i = b from hi]; have := HBN.out; have := HB0.out; omega)))
      have B11 := Lib.hid (B10.out.upd hu (show ¬ At b w.heap.size by have h1 := HBN.out; have h2 := HB0.out; unfold At; omega))
      have S111 := Lib.hid (P10.out.sl S110.out hu)
      have Sw11 := Lib.hid (P10.out.sl Sw10.out hu)
      have P11 := Lib.hid hp
      clear hp P10
      clear hu U10 B10 S110 Sw10 h0_ h1_ hl_
      have h0_ : w11.cell? ⟨w.heap.size, 0, none⟩ = some (.int .i64 h.1) := B11.out.cell 0
      have h1_ : w11.cell? ⟨w.heap.size, 1, none⟩ = some (.int .i64 h.2) := B11.out.cell 1
      have hl_ := B11.out.lt
      go_wp2_with fail
      refine (made_to h _).mono ?_
      rintro e_ w12 ⟨rfl, hu⟩
      have U12 := Lib.hid (U11.out.trans hu (fun _ h => h.elim))
      have B12 := Lib.hid (B11.out.upd hu (fun h => h))
      have P12 := Lib.hid (P11.out.upd0 hu)
      clear P11
      have S112 := Lib.hid (S111.out.upd0 hu)
      have Sw12 := Lib.hid (Sw11.out.upd0 hu)
      clear hu U11 B11 S111 Sw11 h0_ h1_ hl_
      have h0_ : w12.cell? ⟨w.heap.size, 0, none⟩ = some (.int .i64 h.1) := B12.out.cell 0
      have h1_ : w12.cell? ⟨w.heap.size, 1, none⟩ = some (.int .i64 h.2) := B12.out.cell 1
      have hl_ := B12.out.lt
      go_wp2_with fail
      refine (free_to HH.out _ P12.out).mono ?_
      rintro e_ w13 ⟨rfl, hp, hu⟩
      rw [decide_eq_true HIN.out]
      rw [HBK.out] at hp
      have U13 := Lib.hid (U12.out.trans hu (fun i hi => .inr (by rw [show i = b from hi]; have := HBN.out; have := HB0.out; omega)))
      have B13 := Lib.hid (B12.out.upd hu (show ¬ At b w.heap.size by have h1 := HBN.out; have h2 := HB0.out; unfold At; omega))
      have S113 := Lib.hid (P12.out.sl S112.out hu)
      have Sw13 := Lib.hid (P12.out.sl Sw12.out hu)
      have P13 := Lib.hid hp
      clear hp P12
      clear hu U12 B12 S112 Sw12 h0_ h1_ hl_
      have h0_ : w13.cell? ⟨w.heap.size, 0, none⟩ = some (.int .i64 h.1) := B13.out.cell 0
      have h1_ : w13.cell? ⟨w.heap.size, 1, none⟩ = some (.int .i64 h.2) := B13.out.cell 1
      have hl_ := B13.out.lt
      go_wp2_with fail
      refine (made_to h _).mono ?_
      rintro e_ w14 ⟨rfl, hu⟩
      have U14 := Lib.hid (U13.out.trans hu (fun _ h => h.elim))
      have B14 := Lib.hid (B13.out.upd hu (fun h => h))
      have P14 := Lib.hid (P13.out.upd0 hu)
      clear P13
      have S114 := Lib.hid (S113.out.upd0 hu)
      have Sw14 := Lib.hid (Sw13.out.upd0 hu)
      clear hu U13 B13 S113 Sw13 h0_ h1_ hl_
      have h0_ : w14.cell? ⟨w.heap.size, 0, none⟩ = some (.int .i64 h.1) := B14.out.cell 0
      have h1_ : w14.cell? ⟨w.heap.size, 1, none⟩ = some (.int .i64 h.2) := B14.out.cell 1
      have hl_ := B14.out.lt
      go_wp2_with fail
      refine (free_to HH.out _ P14.out).mono ?_
      rintro e_ w15 ⟨rfl, hp, hu⟩
      rw [decide_eq_false HNH.out]
      rw [hwo_none HNH.out] at hp
      have U15 := Lib.hid (U14.out.trans hu (fun i hi => .inr (by rw [show i = b from hi]; have := HBN.out; have := HB0.out; omega)))
      have B15 := Lib.hid (B14.out.upd hu (show ¬ At b w.heap.size by have h1 := HBN.out; have h2 := HB0.out; unfold At; omega))
      have S115 := Lib.hid (P14.out.sl S114.out hu)
      have Sw15 := Lib.hid (P14.out.sl Sw14.out hu)
      have P15 := Lib.hid hp
      clear hp P14
      clear hu U14 B14 S114 Sw14 h0_ h1_ hl_
      have h0_ : w15.cell? ⟨w.heap.size, 0, none⟩ = some (.int .i64 h.1) := B15.out.cell 0
      have h1_ : w15.cell? ⟨w.heap.size, 1, none⟩ = some (.int .i64 h.2) := B15.out.cell 1
      have hl_ := B15.out.lt
      go_wp2_with fail
      refine (all_to (Nat.le_trans HLEN.out (by decide)) _ P15.out).mono ?_
      rintro e_ w16 ⟨A3, n3, c3, l3, rfl, hpm, hri, hln, hsl, hu⟩
      have S3 := Lib.hid hsl
      have Q3 := Lib.hid (show l3.Perm _ ∧ Rising l3 ∧ l3.length = n3 from ⟨hpm, hri, hln⟩)
      clear hsl hpm hri hln
      have U16 := Lib.hid (U15.out.trans hu (fun _ h => h.elim))
      have B16 := Lib.hid (B15.out.upd hu (fun h => h))
      have P16 := Lib.hid (P15.out.upd0 hu)
      clear P15
      have S116 := Lib.hid (S115.out.upd0 hu)
      have Sw16 := Lib.hid (Sw15.out.upd0 hu)
      clear hu U15 B15 S115 Sw15 h0_ h1_ hl_
      have h0_ : w16.cell? ⟨w.heap.size, 0, none⟩ = some (.int .i64 h.1) := B16.out.cell 0
      have h1_ : w16.cell? ⟨w.heap.size, 1, none⟩ = some (.int .i64 h.2) := B16.out.cell 1
      have hl_ := B16.out.lt
      have S316 := S3
      clear S3
      have E3 : Hid (l3 = l1) := Lib.hid (rising_eq (Q3.out.1.trans Q1.out.1.symm) Q3.out.2.1 Q1.out.2.1)
      obtain rfl : n3 = n1 := by rw [← Q3.out.2.2, ← Q1.out.2.2, E3.out]
      go_wp2_with fail
      refine (real_to Q3.out.2.2 HN1.out _ S316.out).mono ?_
      rintro e_ w17 ⟨A4, c4, rfl, hsl, hu⟩
      have S4 := Lib.hid hsl
      clear hsl
      have U17 := Lib.hid (U16.out.trans hu (fun _ h => h.elim))
      have B17 := Lib.hid (B16.out.upd hu (fun h => h))
      have P17 := Lib.hid (P16.out.upd0 hu)
      clear P16
      have S117 := Lib.hid (S116.out.upd0 hu)
      have Sw17 := Lib.hid (Sw16.out.upd0 hu)
      have S317 := Lib.hid (S316.out.upd0 hu)
      clear hu U16 B16 S116 Sw16 S316 h0_ h1_ hl_
      have h0_ : w17.cell? ⟨w.heap.size, 0, none⟩ = some (.int .i64 h.1) := B17.out.cell 0
      have h1_ : w17.cell? ⟨w.heap.size, 1, none⟩ = some (.int .i64 h.2) := B17.out.cell 1
      have hl_ := B17.out.lt
      have S417 := S4
      clear S4
      rw [E3.out] at S417
      go_wp2_with fail
      refine (same_to Q1.out.2.2 HN1.out _ S417.out Sw17.out).mono ?_
      rintro e_ w18 ⟨rfl, hu⟩
      have U18 := Lib.hid (U17.out.trans hu (fun _ h => h.elim))
      have B18 := Lib.hid (B17.out.upd hu (fun h => h))
      have P18 := Lib.hid (P17.out.upd0 hu)
      clear P17
      have S118 := Lib.hid (S117.out.upd0 hu)
      have Sw18 := Lib.hid (Sw17.out.upd0 hu)
      have S318 := Lib.hid (S317.out.upd0 hu)
      have S418 := Lib.hid (S417.out.upd0 hu)
      clear hu U17 B17 S117 Sw17 S317 S417 h0_ h1_ hl_
      have h0_ : w18.cell? ⟨w.heap.size, 0, none⟩ = some (.int .i64 h.1) := B18.out.cell 0
      have h1_ : w18.cell? ⟨w.heap.size, 1, none⟩ = some (.int .i64 h.2) := B18.out.cell 1
      have hl_ := B18.out.lt
      go_wp2
      go_ret
      exact ⟨rfl, U18.out.below0⟩
    | true =>
      have HP0 : Hid (ptakes 4 hs h = false) := Lib.hid HPT.out
      have P9' : Hid (PS w9 g b 4 101 hs) := Lib.hid (by have := P9.out; rwa [ptake, if_neg (by rw [HP0.out]; simp)] at this)
      clear P9
      have P9 := P9'
      clear P9'
      go_wp2_with fail
      refine (made_to h _).mono ?_
      rintro e_ w10 ⟨rfl, hu⟩
      have U10 := Lib.hid (U9.out.trans hu (fun _ h => h.elim))
      have B10 := Lib.hid (B9.out.upd hu (fun h => h))
      have P10 := Lib.hid (P9.out.upd0 hu)
      clear P9
      have S110 := Lib.hid (S19.out.upd0 hu)
      have Sw10 := Lib.hid (Sw9.out.upd0 hu)
      clear hu U9 B9 S19 Sw9 h0_ h1_ hl_
      have h0_ : w10.cell? ⟨w.heap.size, 0, none⟩ = some (.int .i64 h.1) := B10.out.cell 0
      have h1_ : w10.cell? ⟨w.heap.size, 1, none⟩ = some (.int .i64 h.2) := B10.out.cell 1
      have hl_ := B10.out.lt
      go_wp2_with fail
      refine (take_to HH.out (by decide) _ P10.out).mono ?_
      rintro e_ w11 ⟨rfl, hp, hu⟩
      rw [HP0.out]
      rw [ptake, if_neg (by rw [HP0.out]; simp)] at hp
      have U11 := Lib.hid (U10.out.trans hu (fun i hi => .inr (by rw [show i = b from hi]; have := HBN.out; have := HB0.out; omega)))
      have B11 := Lib.hid (B10.out.upd hu (show ¬ At b w.heap.size by have h1 := HBN.out; have h2 := HB0.out; unfold At; omega))
      have S111 := Lib.hid (P10.out.sl S110.out hu)
      have Sw11 := Lib.hid (P10.out.sl Sw10.out hu)
      have P11 := Lib.hid hp
      clear hp P10
      clear hu U10 B10 S110 Sw10 h0_ h1_ hl_
      have h0_ : w11.cell? ⟨w.heap.size, 0, none⟩ = some (.int .i64 h.1) := B11.out.cell 0
      have h1_ : w11.cell? ⟨w.heap.size, 1, none⟩ = some (.int .i64 h.2) := B11.out.cell 1
      have hl_ := B11.out.lt
      go_wp2_with fail
      refine (all_to (Nat.le_trans HLEN.out (by decide)) _ P11.out).mono ?_
      rintro e_ w12 ⟨A3, n3, c3, l3, rfl, hpm, hri, hln, hsl, hu⟩
      have S3 := Lib.hid hsl
      have Q3 := Lib.hid (show l3.Perm _ ∧ Rising l3 ∧ l3.length = n3 from ⟨hpm, hri, hln⟩)
      clear hsl hpm hri hln
      have U12 := Lib.hid (U11.out.trans hu (fun _ h => h.elim))
      have B12 := Lib.hid (B11.out.upd hu (fun h => h))
      have P12 := Lib.hid (P11.out.upd0 hu)
      clear P11
      have S112 := Lib.hid (S111.out.upd0 hu)
      have Sw12 := Lib.hid (Sw11.out.upd0 hu)
      clear hu U11 B11 S111 Sw11 h0_ h1_ hl_
      have h0_ : w12.cell? ⟨w.heap.size, 0, none⟩ = some (.int .i64 h.1) := B12.out.cell 0
      have h1_ : w12.cell? ⟨w.heap.size, 1, none⟩ = some (.int .i64 h.2) := B12.out.cell 1
      have hl_ := B12.out.lt
      have S312 := S3
      clear S3
      have E3 : Hid (l3 = l1) := Lib.hid (rising_eq (Q3.out.1.trans Q1.out.1.symm) Q3.out.2.1 Q1.out.2.1)
      obtain rfl : n3 = n1 := by rw [← Q3.out.2.2, ← Q1.out.2.2, E3.out]
      go_wp2_with fail
      refine (real_to Q3.out.2.2 HN1.out _ S312.out).mono ?_
      rintro e_ w13 ⟨A4, c4, rfl, hsl, hu⟩
      have S4 := Lib.hid hsl
      clear hsl
      have U13 := Lib.hid (U12.out.trans hu (fun _ h => h.elim))
      have B13 := Lib.hid (B12.out.upd hu (fun h => h))
      have P13 := Lib.hid (P12.out.upd0 hu)
      clear P12
      have S113 := Lib.hid (S112.out.upd0 hu)
      have Sw13 := Lib.hid (Sw12.out.upd0 hu)
      have S313 := Lib.hid (S312.out.upd0 hu)
      clear hu U12 B12 S112 Sw12 S312 h0_ h1_ hl_
      have h0_ : w13.cell? ⟨w.heap.size, 0, none⟩ = some (.int .i64 h.1) := B13.out.cell 0
      have h1_ : w13.cell? ⟨w.heap.size, 1, none⟩ = some (.int .i64 h.2) := B13.out.cell 1
      have hl_ := B13.out.lt
      have S413 := S4
      clear S4
      rw [E3.out] at S413
      go_wp2_with fail
      refine (same_to Q1.out.2.2 HN1.out _ S413.out Sw13.out).mono ?_
      rintro e_ w14 ⟨rfl, hu⟩
      have U14 := Lib.hid (U13.out.trans hu (fun _ h => h.elim))
      have B14 := Lib.hid (B13.out.upd hu (fun h => h))
      have P14 := Lib.hid (P13.out.upd0 hu)
      clear P13
      have S114 := Lib.hid (S113.out.upd0 hu)
      have Sw14 := Lib.hid (Sw13.out.upd0 hu)
      have S314 := Lib.hid (S313.out.upd0 hu)
      have S414 := Lib.hid (S413.out.upd0 hu)
      clear hu U13 B13 S113 Sw13 S313 S413 h0_ h1_ hl_
      have h0_ : w14.cell? ⟨w.heap.size, 0, none⟩ = some (.int .i64 h.1) := B14.out.cell 0
      have h1_ : w14.cell? ⟨w.heap.size, 1, none⟩ = some (.int .i64 h.2) := B14.out.cell 1
      have hl_ := B14.out.lt
      go_wp2
      go_ret
      exact ⟨rfl, U14.out.below0⟩
theorem pback_walk {w : World} (A9 : Option Addr) (len9 cap9 : Nat) (L9 : List (List Value)) (hL9 : L9.length = len9) (hlc9 : len9 ≤ cap9) (hm9 : cap9 ≤ maxLen) (hn9 : A9 = none → len9 = 0 ∧ cap9 = 0) (hok9 : ∀ row ∈ L9, Oks [.int .i64, .int .i64, .int .i64] row) (hr9 : Rows w A9 3 L9)
    (c2 : Array Value) (w2 : Oks [.int .i64, .int .i64] c2.toList) :
    Calls Try.prog 6 #[.slice A9 len9 cap9, .agg c2] w fun e w' => e = .returned (.bool true) ∧ Below w.heap.size w w' := by
  obtain ⟨l, hl, hwf, hs⟩ := sl_rows (enc := p3) p3_len (by decide) p3_dec hL9 hlc9 hm9 hn9 hok9 hr9
  unfold maxLen at hm9
  obtain ⟨h, rfl, hh⟩ := arr2 w2
  exact pback_any A9 len9 cap9 l hl (by omega) hwf h hh w hs
end Go.Proofs.Ytkhdgdbbhbphiaa
