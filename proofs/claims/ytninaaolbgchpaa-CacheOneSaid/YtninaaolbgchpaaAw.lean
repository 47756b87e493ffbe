/- The cache is awake. -/
import Derived.Test.YtninaaolbgchpaaCw
namespace Go.Proofs.Ytninaaolbgchpaa
open Go.RowKit
set_option linter.unusedVariables false
set_option linter.unusedSimpArgs false

theorem iok_of {x : Int} (h1 : -4611686018427387904 ≤ x) (h2 : x ≤ 4611686018427387904) : iok x := by
  have e1 : IntKind.i64.min = -9223372036854775808 := by decide
  have e2 : IntKind.i64.max = 9223372036854775807 := by decide
  unfold iok
  show (decide (IntKind.i64.min ≤ x) && decide (x ≤ IntKind.i64.max)) = true
  rw [e1, e2]
  simp
  omega
theorem arrK {c : Array Value} (h : Oks [.int .i64, .int .i64, .int .i64] c.toList) : ∃ d : K3, c = kcs d ∧ kok d := by
  obtain ⟨c⟩ := c
  obtain ⟨v0, r0, e0, ⟨x, rfl, h0⟩, h1⟩ := h.cons
  obtain ⟨v1, r1, e1, ⟨y, rfl, h2⟩, h3⟩ := h1.cons
  obtain ⟨v2, r2, e2, ⟨z, rfl, h4⟩, h5⟩ := h3.cons
  have := h5.nil
  subst this
  simp only at e0
  exact ⟨(x, y, z), by rw [e0, e1, e2], h0, h2, h4⟩
theorem iok_nat {n : Nat} (h : n ≤ 1000) : iok (n : Int) := iok_of (by omega) (by omega)
set_option maxHeartbeats 8000000 in
theorem awake_any (w : World) : Calls Try.prog 9 #[] w fun e w' => e = .returned (.bool true) ∧ Below w.heap.size w w' := by
  have U0 : Hid (Upd (fun _ => False) w w) := Lib.hid (Upd.refl _ w)
  have hI : ∀ x : Int, -4611686018427387904 ≤ x → x ≤ 4611686018427387904 → iok x := fun x h1 h2 => iok_of h1 h2
  have HK : kok (1, 0, 5) := ⟨hI _ (by decide) (by decide), hI _ (by decide) (by decide), hI _ (by decide) (by decide)⟩
  go_enter Try.func9, Try.ntmps9
  go_wp2_with fail
  refine (cnew_to _).mono ?_
  rintro e_ w1 ⟨gg, bk, bj, rfl, hp, hu⟩
  have HB : Hid (w.heap.size ≤ w.heap.size) := Lib.hid U0.out.size
  have U1 := Lib.hid (U0.out.trans hu (fun _ h => h.elim))
  have P1 := Lib.hid hp
  clear hu hp U0
  go_wp2_with fail
  refine Calls.gen (fun W => Upd (fun _ => False) w1 W ∧ Blk W (w1.heap.size) 47 #[.int .i64 1, .int .i64 0, .int .i64 5]) ⟨(by repeat (first | exact Upd.refl _ _ | refine Upd.alloc ?_ _ | refine Upd.drew ?_ | refine Upd.drewN ?_ _ | refine Upd.put ?_ _ _)), by repeat (first | exact Blk.new _ _ _ | exact Blk.new1 _ _ _ _ | exact Blk.new2 _ _ _ _ _ | exact Blk.new3 _ _ _ _ _ _ | refine Blk.alloc ?_ _ | refine Blk.drew ?_)⟩ (fun w2 hW => ?_)
  obtain ⟨hu, hb0⟩ := hW
  have U2 := Lib.hid (U1.out.trans hu (fun _ h => h.elim))
  have P2 := Lib.hid (P1.out.upd0 hu)
  have Bk2 := Lib.hid hb0
  have Nk2 := Lib.hid (P1.out.nb (b := w1.heap.size) (by omega))
  clear hu hb0 U1 P1
  refine (ask_st (k := (1, 0, 5)) (id := 1) (a := 1) (t := (0, 0, 0)) (E' := [⟨(1, 0, 5), 1, none⟩]) (J' := []) HK (by decide) (hI _ (by decide) (by decide)) (by decide) rfl rfl rfl rfl _ P2.out).mono ?_
  rintro e_ w3 ⟨rfl, ⟨F3, hp, hf⟩, hu⟩
  have U3 := Lib.hid (upd_step U2.out P2.out HB.out hu)
  have P3 := Lib.hid hp
  have Bk3 := Lib.hid (Bk2.out.upd hu Nk2.out)
  have Nk3 := Lib.hid (nb_step hf Bk2.out Nk2.out)
  clear hu hp hf  U2 P2 Bk2 Nk2
  have k0_ : w3.cell? ⟨w1.heap.size, 0, none⟩ = some (.int .i64 1) := Bk3.out.cell 0
  have k1_ : w3.cell? ⟨w1.heap.size, 1, none⟩ = some (.int .i64 0) := Bk3.out.cell 1
  have k2_ : w3.cell? ⟨w1.heap.size, 2, none⟩ = some (.int .i64 5) := Bk3.out.cell 2
  have kl_ := Bk3.out.lt
  go_wp2_with fail
  clear k0_ k1_ k2_ kl_
  refine Calls.gen (fun W => Upd (fun _ => False) w3 W ∧ Blk W (w3.heap.size) 44 #[.int .i64 0, .int .i64 0, .int .i64 0]) ⟨(by repeat (first | exact Upd.refl _ _ | refine Upd.alloc ?_ _ | refine Upd.drew ?_ | refine Upd.drewN ?_ _ | refine Upd.put ?_ _ _)), by repeat (first | exact Blk.new _ _ _ | exact Blk.new1 _ _ _ _ | exact Blk.new2 _ _ _ _ _ | exact Blk.new3 _ _ _ _ _ _ | refine Blk.alloc ?_ _ | refine Blk.drew ?_)⟩ (fun w4 hW => ?_)
  obtain ⟨hu, hb0⟩ := hW
  have U4 := Lib.hid (U3.out.trans hu (fun _ h => h.elim))
  have P4 := Lib.hid (P3.out.upd0 hu)
  have Bk4 := Lib.hid (Bk3.out.upd hu (fun h => h))
  have Nk4 := Nk3
  clear hu hb0 U3 P3 Bk3 Nk3
  refine (ask_st (k := (1, 0, 5)) (id := 2) (a := 2) (t := (0, 0, 0)) (E' := [⟨(1, 0, 5), 1, none⟩]) (J' := [(1, 2)]) HK (by decide) (hI _ (by decide) (by decide)) (by decide) rfl rfl rfl rfl _ P4.out).mono ?_
  rintro e_ w5 ⟨rfl, ⟨F5, hp, hf⟩, hu⟩
  have U5 := Lib.hid (upd_step U4.out P4.out HB.out hu)
  have P5 := Lib.hid hp
  have Bk5 := Lib.hid (Bk4.out.upd hu Nk4.out)
  have Nk5 := Lib.hid (nb_step hf Bk4.out Nk4.out)
  clear hu hp hf  U4 P4 Bk4 Nk4
  have k0_ : w5.cell? ⟨w1.heap.size, 0, none⟩ = some (.int .i64 1) := Bk5.out.cell 0
  have k1_ : w5.cell? ⟨w1.heap.size, 1, none⟩ = some (.int .i64 0) := Bk5.out.cell 1
  have k2_ : w5.cell? ⟨w1.heap.size, 2, none⟩ = some (.int .i64 5) := Bk5.out.cell 2
  have kl_ := Bk5.out.lt
  go_wp2_with fail
  clear k0_ k1_ k2_ kl_
  refine Calls.gen (fun W => Upd (fun _ => False) w5 W ∧ Blk W (w5.heap.size) 44 #[.int .i64 0, .int .i64 0, .int .i64 0]) ⟨(by repeat (first | exact Upd.refl _ _ | refine Upd.alloc ?_ _ | refine Upd.drew ?_ | refine Upd.drewN ?_ _ | refine Upd.put ?_ _ _)), by repeat (first | exact Blk.new _ _ _ | exact Blk.new1 _ _ _ _ | exact Blk.new2 _ _ _ _ _ | exact Blk.new3 _ _ _ _ _ _ | refine Blk.alloc ?_ _ | refine Blk.drew ?_)⟩ (fun w6 hW => ?_)
  obtain ⟨hu, hb0⟩ := hW
  have U6 := Lib.hid (U5.out.trans hu (fun _ h => h.elim))
  have P6 := Lib.hid (P5.out.upd0 hu)
  have Bk6 := Lib.hid (Bk5.out.upd hu (fun h => h))
  have Nk6 := Nk5
  clear hu hb0 U5 P5 Bk5 Nk5
  refine (settle_st (id := 1) (t := (1, 0, 7)) (E' := [⟨(1, 0, 5), 1, some (1, 0, 7)⟩]) (J' := []) (L := [2]) (n := 1) (hI _ (by decide) (by decide)) (by decide) rfl rfl rfl rfl _ P6.out).mono ?_
  rintro e_ w7 ⟨Al, cl, rfl, ⟨F7, hp, hf, hk⟩, hu⟩
  have U7 := Lib.hid (upd_step U6.out P6.out HB.out hu)
  have P7 := Lib.hid hp
  have Bk7 := Lib.hid (Bk6.out.upd hu Nk6.out)
  have Nk7 := Lib.hid (nb_step hf Bk6.out Nk6.out)
  have Kl7 := Lib.hid hk
  clear hu hp hf hk U6 P6 Bk6 Nk6
  have k0_ : w7.cell? ⟨w1.heap.size, 0, none⟩ = some (.int .i64 1) := Bk7.out.cell 0
  have k1_ : w7.cell? ⟨w1.heap.size, 1, none⟩ = some (.int .i64 0) := Bk7.out.cell 1
  have k2_ : w7.cell? ⟨w1.heap.size, 2, none⟩ = some (.int .i64 5) := Bk7.out.cell 2
  have kl_ := Bk7.out.lt
  go_wp2_with fail
  clear k0_ k1_ k2_ kl_
  refine (ask_st (k := (1, 0, 5)) (id := 3) (a := 3) (t := (1, 0, 7)) (E' := [⟨(1, 0, 5), 1, some (1, 0, 7)⟩]) (J' := []) HK (by decide) (hI _ (by decide) (by decide)) (by decide) rfl rfl rfl rfl _ P7.out).mono ?_
  rintro e_ w8 ⟨rfl, ⟨F8, hp, hf⟩, hu⟩
  have U8 := Lib.hid (upd_step U7.out P7.out HB.out hu)
  have P8 := Lib.hid hp
  have Bk8 := Lib.hid (Bk7.out.upd hu Nk7.out)
  have Nk8 := Lib.hid (nb_step hf Bk7.out Nk7.out)
  have Kl8 := Lib.hid (Kl7.out.step hu (fun _ h => .inl h) hf)
  clear hu hp hf  U7 P7 Bk7 Nk7 Kl7
  have k0_ : w8.cell? ⟨w1.heap.size, 0, none⟩ = some (.int .i64 1) := Bk8.out.cell 0
  have k1_ : w8.cell? ⟨w1.heap.size, 1, none⟩ = some (.int .i64 0) := Bk8.out.cell 1
  have k2_ : w8.cell? ⟨w1.heap.size, 2, none⟩ = some (.int .i64 5) := Bk8.out.cell 2
  have kl_ := Bk8.out.lt
  go_wp2_with fail
  clear k0_ k1_ k2_ kl_
  refine Calls.gen (fun W => Upd (fun _ => False) w8 W ∧ Blk W (w8.heap.size) 44 #[.int .i64 1, .int .i64 0, .int .i64 7] ∧ Blk W (w8.heap.size + 1) 3 #[.int .i64 2]) ⟨(by repeat (first | exact Upd.refl _ _ | refine Upd.alloc ?_ _ | refine Upd.drew ?_ | refine Upd.drewN ?_ _ | refine Upd.put ?_ _ _)), by repeat (first | exact Blk.new _ _ _ | exact Blk.new1 _ _ _ _ | exact Blk.new2 _ _ _ _ _ | exact Blk.new3 _ _ _ _ _ _ | refine Blk.alloc ?_ _ | refine Blk.drew ?_), by repeat (first | exact Blk.new _ _ _ | exact Blk.new1 _ _ _ _ | exact Blk.new2 _ _ _ _ _ | exact Blk.new3 _ _ _ _ _ _ | refine Blk.alloc ?_ _ | refine Blk.drew ?_)⟩ (fun w9 hW => ?_)
  obtain ⟨hu, hb0, hb1⟩ := hW
  have U9 := Lib.hid (U8.out.trans hu (fun _ h => h.elim))
  have P9 := Lib.hid (P8.out.upd0 hu)
  have Bk9 := Lib.hid (Bk8.out.upd hu (fun h => h))
  have Nk9 := Nk8
  have Kl9 := Lib.hid (Kl8.out.keep0 hu)
  have Bt9 := Lib.hid hb0
  have Nt9 := Lib.hid (P8.out.nb (b := w8.heap.size) (by omega))
  have Bx9 := Lib.hid hb1
  have Nx9 := Lib.hid (P8.out.nb (b := w8.heap.size + 1) (by omega))
  clear hu hb0 hb1 U8 P8 Bk8 Nk8 Kl8
  refine (same_to (l := [2]) rfl (by decide) _ Kl9.out.sl (sl_new Bx9.out rfl rfl (by decide))).mono ?_
  rintro e_ w10 ⟨rfl, hu⟩
  have U10 := Lib.hid (U9.out.trans hu (fun _ h => h.elim))
  have P10 := Lib.hid (P9.out.upd0 hu)
  have Bk10 := Lib.hid (Bk9.out.upd hu (fun h => h))
  have Nk10 := Nk9
  have Bt10 := Lib.hid (Bt9.out.upd hu (fun h => h))
  have Nt10 := Nt9
  have Bx10 := Lib.hid (Bx9.out.upd hu (fun h => h))
  have Nx10 := Nx9
  have Kl10 := Lib.hid (Kl9.out.keep0 hu)
  clear hu U9 P9 Bk9 Bt9 Bx9 Nk9 Nt9 Nx9 Kl9
  have k0_ : w10.cell? ⟨w1.heap.size, 0, none⟩ = some (.int .i64 1) := Bk10.out.cell 0
  have k1_ : w10.cell? ⟨w1.heap.size, 1, none⟩ = some (.int .i64 0) := Bk10.out.cell 1
  have k2_ : w10.cell? ⟨w1.heap.size, 2, none⟩ = some (.int .i64 5) := Bk10.out.cell 2
  have kl_ := Bk10.out.lt
  have t0_ : w10.cell? ⟨w8.heap.size, 0, none⟩ = some (.int .i64 1) := Bt10.out.cell 0
  have t1_ : w10.cell? ⟨w8.heap.size, 1, none⟩ = some (.int .i64 0) := Bt10.out.cell 1
  have t2_ : w10.cell? ⟨w8.heap.size, 2, none⟩ = some (.int .i64 7) := Bt10.out.cell 2
  have tl_ := Bt10.out.lt
  have x0_ : w10.cell? ⟨w8.heap.size + 1, 0, none⟩ = some (.int .i64 2) := Bx10.out.cell 0
  have xl_ := Bx10.out.lt
  go_wp2_with fail
  clear k0_ k1_ k2_ kl_ t0_ t1_ t2_ tl_ x0_ xl_
  refine (len_st (n := 1) rfl _ P10.out).mono ?_
  rintro e_ w11 ⟨rfl, hu⟩
  have U11 := Lib.hid (U10.out.trans hu (fun _ h => h.elim))
  have P11 := Lib.hid (P10.out.upd0 hu)
  have Bk11 := Lib.hid (Bk10.out.upd hu (fun h => h))
  have Nk11 := Nk10
  have Bt11 := Lib.hid (Bt10.out.upd hu (fun h => h))
  have Nt11 := Nt10
  have Bx11 := Lib.hid (Bx10.out.upd hu (fun h => h))
  have Nx11 := Nx10
  have Kl11 := Lib.hid (Kl10.out.keep0 hu)
  clear hu U10 P10 Bk10 Bt10 Bx10 Nk10 Nt10 Nx10 Kl10
  have k0_ : w11.cell? ⟨w1.heap.size, 0, none⟩ = some (.int .i64 1) := Bk11.out.cell 0
  have k1_ : w11.cell? ⟨w1.heap.size, 1, none⟩ = some (.int .i64 0) := Bk11.out.cell 1
  have k2_ : w11.cell? ⟨w1.heap.size, 2, none⟩ = some (.int .i64 5) := Bk11.out.cell 2
  have kl_ := Bk11.out.lt
  have t0_ : w11.cell? ⟨w8.heap.size, 0, none⟩ = some (.int .i64 1) := Bt11.out.cell 0
  have t1_ : w11.cell? ⟨w8.heap.size, 1, none⟩ = some (.int .i64 0) := Bt11.out.cell 1
  have t2_ : w11.cell? ⟨w8.heap.size, 2, none⟩ = some (.int .i64 7) := Bt11.out.cell 2
  have tl_ := Bt11.out.lt
  have x0_ : w11.cell? ⟨w8.heap.size + 1, 0, none⟩ = some (.int .i64 2) := Bx11.out.cell 0
  have xl_ := Bx11.out.lt
  go_wp2_with fail
  clear k0_ k1_ k2_ kl_ t0_ t1_ t2_ tl_ x0_ xl_
  refine (close_st (s := 1) (E' := []) (n := 1) (by decide) rfl rfl _ P11.out).mono ?_
  rintro e_ w12 ⟨rfl, hp, hu⟩
  have U12 := Lib.hid (upd_step U11.out P11.out HB.out hu)
  have P12 := Lib.hid hp
  have Bk12 := Lib.hid (Bk11.out.upd hu Nk11.out)
  have Nk12 := Nk11
  have Bt12 := Lib.hid (Bt11.out.upd hu Nt11.out)
  have Nt12 := Nt11
  have Bx12 := Lib.hid (Bx11.out.upd hu Nx11.out)
  have Nx12 := Nx11
  have Kl12 := Lib.hid (Kl11.out.keep hu (fun _ h => h))
  clear hu hp U11 P11 Bk11 Bt11 Bx11 Nk11 Nt11 Nx11 Kl11
  have k0_ : w12.cell? ⟨w1.heap.size, 0, none⟩ = some (.int .i64 1) := Bk12.out.cell 0
  have k1_ : w12.cell? ⟨w1.heap.size, 1, none⟩ = some (.int .i64 0) := Bk12.out.cell 1
  have k2_ : w12.cell? ⟨w1.heap.size, 2, none⟩ = some (.int .i64 5) := Bk12.out.cell 2
  have kl_ := Bk12.out.lt
  have t0_ : w12.cell? ⟨w8.heap.size, 0, none⟩ = some (.int .i64 1) := Bt12.out.cell 0
  have t1_ : w12.cell? ⟨w8.heap.size, 1, none⟩ = some (.int .i64 0) := Bt12.out.cell 1
  have t2_ : w12.cell? ⟨w8.heap.size, 2, none⟩ = some (.int .i64 7) := Bt12.out.cell 2
  have tl_ := Bt12.out.lt
  have x0_ : w12.cell? ⟨w8.heap.size + 1, 0, none⟩ = some (.int .i64 2) := Bx12.out.cell 0
  have xl_ := Bx12.out.lt
  go_wp2_with fail
  clear k0_ k1_ k2_ kl_ t0_ t1_ t2_ tl_ x0_ xl_
  refine (len_st (n := 0) rfl _ P12.out).mono ?_
  rintro e_ w13 ⟨rfl, hu⟩
  have U13 := Lib.hid (U12.out.trans hu (fun _ h => h.elim))
  have P13 := Lib.hid (P12.out.upd0 hu)
  have Bk13 := Lib.hid (Bk12.out.upd hu (fun h => h))
  have Nk13 := Nk12
  have Bt13 := Lib.hid (Bt12.out.upd hu (fun h => h))
  have Nt13 := Nt12
  have Bx13 := Lib.hid (Bx12.out.upd hu (fun h => h))
  have Nx13 := Nx12
  have Kl13 := Lib.hid (Kl12.out.keep0 hu)
  clear hu U12 P12 Bk12 Bt12 Bx12 Nk12 Nt12 Nx12 Kl12
  have k0_ : w13.cell? ⟨w1.heap.size, 0, none⟩ = some (.int .i64 1) := Bk13.out.cell 0
  have k1_ : w13.cell? ⟨w1.heap.size, 1, none⟩ = some (.int .i64 0) := Bk13.out.cell 1
  have k2_ : w13.cell? ⟨w1.heap.size, 2, none⟩ = some (.int .i64 5) := Bk13.out.cell 2
  have kl_ := Bk13.out.lt
  have t0_ : w13.cell? ⟨w8.heap.size, 0, none⟩ = some (.int .i64 1) := Bt13.out.cell 0
  have t1_ : w13.cell? ⟨w8.heap.size, 1, none⟩ = some (.int .i64 0) := Bt13.out.cell 1
  have t2_ : w13.cell? ⟨w8.heap.size, 2, none⟩ = some (.int .i64 7) := Bt13.out.cell 2
  have tl_ := Bt13.out.lt
  have x0_ : w13.cell? ⟨w8.heap.size + 1, 0, none⟩ = some (.int .i64 2) := Bx13.out.cell 0
  have xl_ := Bx13.out.lt
  go_wp2
  clear k0_ k1_ k2_ kl_ t0_ t1_ t2_ tl_ x0_ xl_
  go_ret
  exact ⟨rfl, U13.out.below0⟩
theorem awake_to (w : World) : Calls Try.prog 9 #[] w fun e w' => e = .returned (.bool true) ∧ Upd (fun _ => False) w w' := (awake_any w).mono fun e w' h => ⟨h.1, Upd.of_below h.2 _⟩
end Go.Proofs.Ytninaaolbgchpaa
