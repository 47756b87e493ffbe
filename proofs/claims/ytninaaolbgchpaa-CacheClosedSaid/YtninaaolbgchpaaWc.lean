/- CacheClosed. -/
import Derived.Test.YtninaaolbgchpaaAw
namespace Go.Proofs.Ytninaaolbgchpaa
open Go.RowKit
set_option linter.unusedVariables false
set_option linter.unusedSimpArgs false

theorem same_to' {A B : Option Addr} {n c d : Nat} {l l' : List Int} (he : l = l') (hl : l.length = n) (hn : n ≤ 1000) (w : World) (ha : Sl w A n c (nums l)) (hb : Sl w B n d (nums l')) : Calls Try.prog 19 #[.slice A n c, .slice B n d] w fun e w' => e = .returned (.bool true) ∧ Upd (fun _ => False) w w' := by
  subst he
  exact same_to hl hn w ha hb
set_option maxHeartbeats 8000000 in
theorem cclosed_any (k1 k2 k3 : Int) (hk : kok (k1, k2, k3)) (t : K3) (w : World) : Calls Try.prog 7 #[kval (k1, k2, k3), kval t] w fun e w' => e = .returned (.bool true) ∧ Below w.heap.size w w' := by
  have U0 : Hid (Upd (fun _ => False) w w) := Lib.hid (Upd.refl _ w)
  obtain ⟨t1, t2, t3⟩ := t
  have HK := Lib.hid hk
  clear hk
  have hI : ∀ x : Int, -4611686018427387904 ≤ x → x ≤ 4611686018427387904 → iok x := fun x h1 h2 => iok_of h1 h2
  go_enter Try.func7, Try.ntmps7
  go_wp2_with fail
  refine Calls.gen (fun W => Upd (fun _ => False) w W ∧ Blk W (w.heap.size) 33 #[.int .i64 k1, .int .i64 k2, .int .i64 k3] ∧ Blk W (w.heap.size + 1) 35 #[.int .i64 t1, .int .i64 t2, .int .i64 t3]) ⟨(by repeat (first | exact Upd.refl _ _ | refine Upd.alloc ?_ _ | refine Upd.drew ?_ | refine Upd.drewN ?_ _ | refine Upd.put ?_ _ _)), by repeat (first | exact Blk.new _ _ _ | exact Blk.new1 _ _ _ _ | exact Blk.new2 _ _ _ _ _ | exact Blk.new3 _ _ _ _ _ _ | refine Blk.alloc ?_ _ | refine Blk.drew ?_), by repeat (first | exact Blk.new _ _ _ | exact Blk.new1 _ _ _ _ | exact Blk.new2 _ _ _ _ _ | exact Blk.new3 _ _ _ _ _ _ | refine Blk.alloc ?_ _ | refine Blk.drew ?_)⟩ (fun w1 hW => ?_)
  obtain ⟨hu, hb0, hb1⟩ := hW
  have U1 := Lib.hid (U0.out.trans hu (fun _ h => h.elim))
  have Bk1 := Lib.hid hb0
  have Bt1 := Lib.hid hb1
  clear hu hb0 hb1 U0
  refine (awake_to _).mono ?_
  rintro e_ w2 ⟨rfl, hu⟩
  have U2 := Lib.hid (U1.out.trans hu (fun _ h => h.elim))
  have Bk2 := Lib.hid (Bk1.out.upd hu (fun h => h))
  have Bt2 := Lib.hid (Bt1.out.upd hu (fun h => h))
  clear hu U1 Bk1 Bt1
  by_cases h0 : k1 = 0
  · skip
    have hd0 : (k1 == 0) = true := by simp [h0]
    have k0_ : w2.cell? ⟨w.heap.size, 0, none⟩ = some (.int .i64 k1) := Bk2.out.cell 0
    have k1_ : w2.cell? ⟨w.heap.size, 1, none⟩ = some (.int .i64 k2) := Bk2.out.cell 1
    have k2_ : w2.cell? ⟨w.heap.size, 2, none⟩ = some (.int .i64 k3) := Bk2.out.cell 2
    have kl_ := Bk2.out.lt
    have t0_ : w2.cell? ⟨w.heap.size + 1, 0, none⟩ = some (.int .i64 t1) := Bt2.out.cell 0
    have t1_ : w2.cell? ⟨w.heap.size + 1, 1, none⟩ = some (.int .i64 t2) := Bt2.out.cell 1
    have t2_ : w2.cell? ⟨w.heap.size + 1, 2, none⟩ = some (.int .i64 t3) := Bt2.out.cell 2
    have tl_ := Bt2.out.lt
    go_wp2
    clear k0_ k1_ k2_ kl_ t0_ t1_ t2_ tl_
    go_ret
    exact ⟨rfl, U2.out.below0⟩
  · skip
    have hd0 : (k1 == 0) = false := by simp [h0]
    have k0_ : w2.cell? ⟨w.heap.size, 0, none⟩ = some (.int .i64 k1) := Bk2.out.cell 0
    have k1_ : w2.cell? ⟨w.heap.size, 1, none⟩ = some (.int .i64 k2) := Bk2.out.cell 1
    have k2_ : w2.cell? ⟨w.heap.size, 2, none⟩ = some (.int .i64 k3) := Bk2.out.cell 2
    have kl_ := Bk2.out.lt
    have t0_ : w2.cell? ⟨w.heap.size + 1, 0, none⟩ = some (.int .i64 t1) := Bt2.out.cell 0
    have t1_ : w2.cell? ⟨w.heap.size + 1, 1, none⟩ = some (.int .i64 t2) := Bt2.out.cell 1
    have t2_ : w2.cell? ⟨w.heap.size + 1, 2, none⟩ = some (.int .i64 t3) := Bt2.out.cell 2
    have tl_ := Bt2.out.lt
    go_wp2_with fail
    clear k0_ k1_ k2_ kl_ t0_ t1_ t2_ tl_
    refine (cnew_to _).mono ?_
    rintro e_ w3 ⟨gg, bk, bj, rfl, hp, hu⟩
    have HB : Hid (w.heap.size ≤ w2.heap.size) := Lib.hid U2.out.size
    have U3 := Lib.hid (U2.out.trans hu (fun _ h => h.elim))
    have P3 := Lib.hid hp
    have Bk3 := Lib.hid (Bk2.out.upd hu (fun h => h))
    have Nk3 := Lib.hid (hp.nlow Bk2.out.lt)
    have Bt3 := Lib.hid (Bt2.out.upd hu (fun h => h))
    have Nt3 := Lib.hid (hp.nlow Bt2.out.lt)
    clear hu hp U2 Bk2 Bt2
    have k0_ : w3.cell? ⟨w.heap.size, 0, none⟩ = some (.int .i64 k1) := Bk3.out.cell 0
    have k1_ : w3.cell? ⟨w.heap.size, 1, none⟩ = some (.int .i64 k2) := Bk3.out.cell 1
    have k2_ : w3.cell? ⟨w.heap.size, 2, none⟩ = some (.int .i64 k3) := Bk3.out.cell 2
    have kl_ := Bk3.out.lt
    have t0_ : w3.cell? ⟨w.heap.size + 1, 0, none⟩ = some (.int .i64 t1) := Bt3.out.cell 0
    have t1_ : w3.cell? ⟨w.heap.size + 1, 1, none⟩ = some (.int .i64 t2) := Bt3.out.cell 1
    have t2_ : w3.cell? ⟨w.heap.size + 1, 2, none⟩ = some (.int .i64 t3) := Bt3.out.cell 2
    have tl_ := Bt3.out.lt
    go_wp2_with fail
    clear k0_ k1_ k2_ kl_ t0_ t1_ t2_ tl_
    refine (key_to (k1, k2, k3) _).mono ?_
    rintro e_ w4 ⟨rfl, hu⟩
    have U4 := Lib.hid (U3.out.trans hu (fun _ h => h.elim))
    have P4 := Lib.hid (P3.out.upd0 hu)
    have Bk4 := Lib.hid (Bk3.out.upd hu (fun h => h))
    have Nk4 := Nk3
    have Bt4 := Lib.hid (Bt3.out.upd hu (fun h => h))
    have Nt4 := Nt3
    clear hu U3 P3 Bk3 Bt3 Nk3 Nt3
    have k0_ : w4.cell? ⟨w.heap.size, 0, none⟩ = some (.int .i64 k1) := Bk4.out.cell 0
    have k1_ : w4.cell? ⟨w.heap.size, 1, none⟩ = some (.int .i64 k2) := Bk4.out.cell 1
    have k2_ : w4.cell? ⟨w.heap.size, 2, none⟩ = some (.int .i64 k3) := Bk4.out.cell 2
    have kl_ := Bk4.out.lt
    have t0_ : w4.cell? ⟨w.heap.size + 1, 0, none⟩ = some (.int .i64 t1) := Bt4.out.cell 0
    have t1_ : w4.cell? ⟨w.heap.size + 1, 1, none⟩ = some (.int .i64 t2) := Bt4.out.cell 1
    have t2_ : w4.cell? ⟨w.heap.size + 1, 2, none⟩ = some (.int .i64 t3) := Bt4.out.cell 2
    have tl_ := Bt4.out.lt
    go_wp2_with fail
    clear k0_ k1_ k2_ kl_ t0_ t1_ t2_ tl_
    refine (ask_st (k := (k1, k2, k3)) (id := 1) (a := 1) (t := (0, 0, 0)) (E' := [⟨(k1, k2, k3), 1, none⟩]) (J' := []) HK.out h0 (hI _ (by decide) (by decide)) (by decide) (by simp [askE, entK]) (by simp [askJ, entK]) (by simp [askA, entK]) (by simp [askT, entK]) _ P4.out).mono ?_
    rintro e_ w5 ⟨rfl, ⟨F5, hp, hf⟩, hu⟩
    have U5 := Lib.hid (upd_step U4.out P4.out HB.out hu)
    have P5 := Lib.hid hp
    have Bk5 := Lib.hid (Bk4.out.upd hu Nk4.out)
    have Nk5 := Lib.hid (nb_step hf Bk4.out Nk4.out)
    have Bt5 := Lib.hid (Bt4.out.upd hu Nt4.out)
    have Nt5 := Lib.hid (nb_step hf Bt4.out Nt4.out)
    clear hu hp hf  U4 P4 Bk4 Bt4 Nk4 Nt4
    have k0_ : w5.cell? ⟨w.heap.size, 0, none⟩ = some (.int .i64 k1) := Bk5.out.cell 0
    have k1_ : w5.cell? ⟨w.heap.size, 1, none⟩ = some (.int .i64 k2) := Bk5.out.cell 1
    have k2_ : w5.cell? ⟨w.heap.size, 2, none⟩ = some (.int .i64 k3) := Bk5.out.cell 2
    have kl_ := Bk5.out.lt
    have t0_ : w5.cell? ⟨w.heap.size + 1, 0, none⟩ = some (.int .i64 t1) := Bt5.out.cell 0
    have t1_ : w5.cell? ⟨w.heap.size + 1, 1, none⟩ = some (.int .i64 t2) := Bt5.out.cell 1
    have t2_ : w5.cell? ⟨w.heap.size + 1, 2, none⟩ = some (.int .i64 t3) := Bt5.out.cell 2
    have tl_ := Bt5.out.lt
    go_wp2_with fail
    clear k0_ k1_ k2_ kl_ t0_ t1_ t2_ tl_
    refine (key_to (k1, k2, k3) _).mono ?_
    rintro e_ w6 ⟨rfl, hu⟩
    have U6 := Lib.hid (U5.out.trans hu (fun _ h => h.elim))
    have P6 := Lib.hid (P5.out.upd0 hu)
    have Bk6 := Lib.hid (Bk5.out.upd hu (fun h => h))
    have Nk6 := Nk5
    have Bt6 := Lib.hid (Bt5.out.upd hu (fun h => h))
    have Nt6 := Nt5
    clear hu U5 P5 Bk5 Bt5 Nk5 Nt5
    have k0_ : w6.cell? ⟨w.heap.size, 0, none⟩ = some (.int .i64 k1) := Bk6.out.cell 0
    have k1_ : w6.cell? ⟨w.heap.size, 1, none⟩ = some (.int .i64 k2) := Bk6.out.cell 1
    have k2_ : w6.cell? ⟨w.heap.size, 2, none⟩ = some (.int .i64 k3) := Bk6.out.cell 2
    have kl_ := Bk6.out.lt
    have t0_ : w6.cell? ⟨w.heap.size + 1, 0, none⟩ = some (.int .i64 t1) := Bt6.out.cell 0
    have t1_ : w6.cell? ⟨w.heap.size + 1, 1, none⟩ = some (.int .i64 t2) := Bt6.out.cell 1
    have t2_ : w6.cell? ⟨w.heap.size + 1, 2, none⟩ = some (.int .i64 t3) := Bt6.out.cell 2
    have tl_ := Bt6.out.lt
    go_wp2_with fail
    clear k0_ k1_ k2_ kl_ t0_ t1_ t2_ tl_
    refine (ask_st (k := (k1, k2, k3)) (id := 2) (a := 2) (t := (0, 0, 0)) (E' := [⟨(k1, k2, k3), 1, none⟩]) (J' := [(1, 2)]) HK.out h0 (hI _ (by decide) (by decide)) (by decide) (by simp [askE, entK]) (by simp [askJ, entK]) (by simp [askA, entK]) (by simp [askT, entK]) _ P6.out).mono ?_
    rintro e_ w7 ⟨rfl, ⟨F7, hp, hf⟩, hu⟩
    have U7 := Lib.hid (upd_step U6.out P6.out HB.out hu)
    have P7 := Lib.hid hp
    have Bk7 := Lib.hid (Bk6.out.upd hu Nk6.out)
    have Nk7 := Lib.hid (nb_step hf Bk6.out Nk6.out)
    have Bt7 := Lib.hid (Bt6.out.upd hu Nt6.out)
    have Nt7 := Lib.hid (nb_step hf Bt6.out Nt6.out)
    clear hu hp hf  U6 P6 Bk6 Bt6 Nk6 Nt6
    have k0_ : w7.cell? ⟨w.heap.size, 0, none⟩ = some (.int .i64 k1) := Bk7.out.cell 0
    have k1_ : w7.cell? ⟨w.heap.size, 1, none⟩ = some (.int .i64 k2) := Bk7.out.cell 1
    have k2_ : w7.cell? ⟨w.heap.size, 2, none⟩ = some (.int .i64 k3) := Bk7.out.cell 2
    have kl_ := Bk7.out.lt
    have t0_ : w7.cell? ⟨w.heap.size + 1, 0, none⟩ = some (.int .i64 t1) := Bt7.out.cell 0
    have t1_ : w7.cell? ⟨w.heap.size + 1, 1, none⟩ = some (.int .i64 t2) := Bt7.out.cell 1
    have t2_ : w7.cell? ⟨w.heap.size + 1, 2, none⟩ = some (.int .i64 t3) := Bt7.out.cell 2
    have tl_ := Bt7.out.lt
    go_wp2_with fail
    clear k0_ k1_ k2_ kl_ t0_ t1_ t2_ tl_
    refine (close_st (s := k1) (E' := []) (n := 1) (by decide) (by simp [cloE]) rfl _ P7.out).mono ?_
    rintro e_ w8 ⟨rfl, hp, hu⟩
    have U8 := Lib.hid (upd_step U7.out P7.out HB.out hu)
    have P8 := Lib.hid hp
    have Bk8 := Lib.hid (Bk7.out.upd hu Nk7.out)
    have Nk8 := Nk7
    have Bt8 := Lib.hid (Bt7.out.upd hu Nt7.out)
    have Nt8 := Nt7
    clear hu hp U7 P7 Bk7 Bt7 Nk7 Nt7
    have k0_ : w8.cell? ⟨w.heap.size, 0, none⟩ = some (.int .i64 k1) := Bk8.out.cell 0
    have k1_ : w8.cell? ⟨w.heap.size, 1, none⟩ = some (.int .i64 k2) := Bk8.out.cell 1
    have k2_ : w8.cell? ⟨w.heap.size, 2, none⟩ = some (.int .i64 k3) := Bk8.out.cell 2
    have kl_ := Bk8.out.lt
    have t0_ : w8.cell? ⟨w.heap.size + 1, 0, none⟩ = some (.int .i64 t1) := Bt8.out.cell 0
    have t1_ : w8.cell? ⟨w.heap.size + 1, 1, none⟩ = some (.int .i64 t2) := Bt8.out.cell 1
    have t2_ : w8.cell? ⟨w.heap.size + 1, 2, none⟩ = some (.int .i64 t3) := Bt8.out.cell 2
    have tl_ := Bt8.out.lt
    go_wp2_with fail
    clear k0_ k1_ k2_ kl_ t0_ t1_ t2_ tl_
    refine (key_to (k1, k2, k3) _).mono ?_
    rintro e_ w9 ⟨rfl, hu⟩
    have U9 := Lib.hid (U8.out.trans hu (fun _ h => h.elim))
    have P9 := Lib.hid (P8.out.upd0 hu)
    have Bk9 := Lib.hid (Bk8.out.upd hu (fun h => h))
    have Nk9 := Nk8
    have Bt9 := Lib.hid (Bt8.out.upd hu (fun h => h))
    have Nt9 := Nt8
    clear hu U8 P8 Bk8 Bt8 Nk8 Nt8
    have k0_ : w9.cell? ⟨w.heap.size, 0, none⟩ = some (.int .i64 k1) := Bk9.out.cell 0
    have k1_ : w9.cell? ⟨w.heap.size, 1, none⟩ = some (.int .i64 k2) := Bk9.out.cell 1
    have k2_ : w9.cell? ⟨w.heap.size, 2, none⟩ = some (.int .i64 k3) := Bk9.out.cell 2
    have kl_ := Bk9.out.lt
    have t0_ : w9.cell? ⟨w.heap.size + 1, 0, none⟩ = some (.int .i64 t1) := Bt9.out.cell 0
    have t1_ : w9.cell? ⟨w.heap.size + 1, 1, none⟩ = some (.int .i64 t2) := Bt9.out.cell 1
    have t2_ : w9.cell? ⟨w.heap.size + 1, 2, none⟩ = some (.int .i64 t3) := Bt9.out.cell 2
    have tl_ := Bt9.out.lt
    go_wp2_with fail
    clear k0_ k1_ k2_ kl_ t0_ t1_ t2_ tl_
    refine (ask_st (k := (k1, k2, k3)) (id := 3) (a := 1) (t := (0, 0, 0)) (E' := [⟨(k1, k2, k3), 3, none⟩]) (J' := [(1, 2)]) HK.out h0 (hI _ (by decide) (by decide)) (by decide) (by simp [askE, entK]) (by simp [askJ, entK]) (by simp [askA, entK]) (by simp [askT, entK]) _ P9.out).mono ?_
    rintro e_ w10 ⟨rfl, ⟨F10, hp, hf⟩, hu⟩
    have U10 := Lib.hid (upd_step U9.out P9.out HB.out hu)
    have P10 := Lib.hid hp
    have Bk10 := Lib.hid (Bk9.out.upd hu Nk9.out)
    have Nk10 := Lib.hid (nb_step hf Bk9.out Nk9.out)
    have Bt10 := Lib.hid (Bt9.out.upd hu Nt9.out)
    have Nt10 := Lib.hid (nb_step hf Bt9.out Nt9.out)
    clear hu hp hf  U9 P9 Bk9 Bt9 Nk9 Nt9
    have k0_ : w10.cell? ⟨w.heap.size, 0, none⟩ = some (.int .i64 k1) := Bk10.out.cell 0
    have k1_ : w10.cell? ⟨w.heap.size, 1, none⟩ = some (.int .i64 k2) := Bk10.out.cell 1
    have k2_ : w10.cell? ⟨w.heap.size, 2, none⟩ = some (.int .i64 k3) := Bk10.out.cell 2
    have kl_ := Bk10.out.lt
    have t0_ : w10.cell? ⟨w.heap.size + 1, 0, none⟩ = some (.int .i64 t1) := Bt10.out.cell 0
    have t1_ : w10.cell? ⟨w.heap.size + 1, 1, none⟩ = some (.int .i64 t2) := Bt10.out.cell 1
    have t2_ : w10.cell? ⟨w.heap.size + 1, 2, none⟩ = some (.int .i64 t3) := Bt10.out.cell 2
    have tl_ := Bt10.out.lt
    go_wp2_with fail
    clear k0_ k1_ k2_ kl_ t0_ t1_ t2_ tl_
    refine Calls.gen (fun W => Upd (fun _ => False) w10 W ∧ Blk W (w10.heap.size) 44 #[.int .i64 0, .int .i64 0, .int .i64 0]) ⟨(by repeat (first | exact Upd.refl _ _ | refine Upd.alloc ?_ _ | refine Upd.drew ?_ | refine Upd.drewN ?_ _ | refine Upd.put ?_ _ _)), by repeat (first | exact Blk.new _ _ _ | exact Blk.new1 _ _ _ _ | exact Blk.new2 _ _ _ _ _ | exact Blk.new3 _ _ _ _ _ _ | refine Blk.alloc ?_ _ | refine Blk.drew ?_)⟩ (fun w11 hW => ?_)
    obtain ⟨hu, hb0⟩ := hW
    have U11 := Lib.hid (U10.out.trans hu (fun _ h => h.elim))
    have P11 := Lib.hid (P10.out.upd0 hu)
    have Bk11 := Lib.hid (Bk10.out.upd hu (fun h => h))
    have Nk11 := Nk10
    have Bt11 := Lib.hid (Bt10.out.upd hu (fun h => h))
    have Nt11 := Nt10
    clear hu hb0 U10 P10 Bk10 Bt10 Nk10 Nt10
    refine (key_to (k1, k2, k3) _).mono ?_
    rintro e_ w12 ⟨rfl, hu⟩
    have U12 := Lib.hid (U11.out.trans hu (fun _ h => h.elim))
    have P12 := Lib.hid (P11.out.upd0 hu)
    have Bk12 := Lib.hid (Bk11.out.upd hu (fun h => h))
    have Nk12 := Nk11
    have Bt12 := Lib.hid (Bt11.out.upd hu (fun h => h))
    have Nt12 := Nt11
    clear hu U11 P11 Bk11 Bt11 Nk11 Nt11
    have k0_ : w12.cell? ⟨w.heap.size, 0, none⟩ = some (.int .i64 k1) := Bk12.out.cell 0
    have k1_ : w12.cell? ⟨w.heap.size, 1, none⟩ = some (.int .i64 k2) := Bk12.out.cell 1
    have k2_ : w12.cell? ⟨w.heap.size, 2, none⟩ = some (.int .i64 k3) := Bk12.out.cell 2
    have kl_ := Bk12.out.lt
    have t0_ : w12.cell? ⟨w.heap.size + 1, 0, none⟩ = some (.int .i64 t1) := Bt12.out.cell 0
    have t1_ : w12.cell? ⟨w.heap.size + 1, 1, none⟩ = some (.int .i64 t2) := Bt12.out.cell 1
    have t2_ : w12.cell? ⟨w.heap.size + 1, 2, none⟩ = some (.int .i64 t3) := Bt12.out.cell 2
    have tl_ := Bt12.out.lt
    go_wp2_with fail
    clear k0_ k1_ k2_ kl_ t0_ t1_ t2_ tl_
    refine (ask_st (k := (k1, k2, k3)) (id := 4) (a := 2) (t := (0, 0, 0)) (E' := [⟨(k1, k2, k3), 3, none⟩]) (J' := [(1, 2), (3, 4)]) HK.out h0 (hI _ (by decide) (by decide)) (by decide) (by simp [askE, entK]) (by simp [askJ, entK]) (by simp [askA, entK]) (by simp [askT, entK]) _ P12.out).mono ?_
    rintro e_ w13 ⟨rfl, ⟨F13, hp, hf⟩, hu⟩
    have U13 := Lib.hid (upd_step U12.out P12.out HB.out hu)
    have P13 := Lib.hid hp
    have Bk13 := Lib.hid (Bk12.out.upd hu Nk12.out)
    have Nk13 := Lib.hid (nb_step hf Bk12.out Nk12.out)
    have Bt13 := Lib.hid (Bt12.out.upd hu Nt12.out)
    have Nt13 := Lib.hid (nb_step hf Bt12.out Nt12.out)
    clear hu hp hf  U12 P12 Bk12 Bt12 Nk12 Nt12
    have k0_ : w13.cell? ⟨w.heap.size, 0, none⟩ = some (.int .i64 k1) := Bk13.out.cell 0
    have k1_ : w13.cell? ⟨w.heap.size, 1, none⟩ = some (.int .i64 k2) := Bk13.out.cell 1
    have k2_ : w13.cell? ⟨w.heap.size, 2, none⟩ = some (.int .i64 k3) := Bk13.out.cell 2
    have kl_ := Bk13.out.lt
    have t0_ : w13.cell? ⟨w.heap.size + 1, 0, none⟩ = some (.int .i64 t1) := Bt13.out.cell 0
    have t1_ : w13.cell? ⟨w.heap.size + 1, 1, none⟩ = some (.int .i64 t2) := Bt13.out.cell 1
    have t2_ : w13.cell? ⟨w.heap.size + 1, 2, none⟩ = some (.int .i64 t3) := Bt13.out.cell 2
    have tl_ := Bt13.out.lt
    go_wp2_with fail
    clear k0_ k1_ k2_ kl_ t0_ t1_ t2_ tl_
    refine Calls.gen (fun W => Upd (fun _ => False) w13 W ∧ Blk W (w13.heap.size) 44 #[.int .i64 0, .int .i64 0, .int .i64 0]) ⟨(by repeat (first | exact Upd.refl _ _ | refine Upd.alloc ?_ _ | refine Upd.drew ?_ | refine Upd.drewN ?_ _ | refine Upd.put ?_ _ _)), by repeat (first | exact Blk.new _ _ _ | exact Blk.new1 _ _ _ _ | exact Blk.new2 _ _ _ _ _ | exact Blk.new3 _ _ _ _ _ _ | refine Blk.alloc ?_ _ | refine Blk.drew ?_)⟩ (fun w14 hW => ?_)
    obtain ⟨hu, hb0⟩ := hW
    have U14 := Lib.hid (U13.out.trans hu (fun _ h => h.elim))
    have P14 := Lib.hid (P13.out.upd0 hu)
    have Bk14 := Lib.hid (Bk13.out.upd hu (fun h => h))
    have Nk14 := Nk13
    have Bt14 := Lib.hid (Bt13.out.upd hu (fun h => h))
    have Nt14 := Nt13
    clear hu hb0 U13 P13 Bk13 Bt13 Nk13 Nt13
    refine (told_to (t1, t2, t3) _).mono ?_
    rintro e_ w15 ⟨rfl, hu⟩
    have U15 := Lib.hid (U14.out.trans hu (fun _ h => h.elim))
    have P15 := Lib.hid (P14.out.upd0 hu)
    have Bk15 := Lib.hid (Bk14.out.upd hu (fun h => h))
    have Nk15 := Nk14
    have Bt15 := Lib.hid (Bt14.out.upd hu (fun h => h))
    have Nt15 := Nt14
    clear hu U14 P14 Bk14 Bt14 Nk14 Nt14
    have k0_ : w15.cell? ⟨w.heap.size, 0, none⟩ = some (.int .i64 k1) := Bk15.out.cell 0
    have k1_ : w15.cell? ⟨w.heap.size, 1, none⟩ = some (.int .i64 k2) := Bk15.out.cell 1
    have k2_ : w15.cell? ⟨w.heap.size, 2, none⟩ = some (.int .i64 k3) := Bk15.out.cell 2
    have kl_ := Bk15.out.lt
    have t0_ : w15.cell? ⟨w.heap.size + 1, 0, none⟩ = some (.int .i64 t1) := Bt15.out.cell 0
    have t1_ : w15.cell? ⟨w.heap.size + 1, 1, none⟩ = some (.int .i64 t2) := Bt15.out.cell 1
    have t2_ : w15.cell? ⟨w.heap.size + 1, 2, none⟩ = some (.int .i64 t3) := Bt15.out.cell 2
    have tl_ := Bt15.out.lt
    go_wp2_with fail
    clear k0_ k1_ k2_ kl_ t0_ t1_ t2_ tl_
    refine (settle_st (id := 1) (t := (t1, t2, t3)) (E' := [⟨(k1, k2, k3), 3, none⟩]) (J' := [(3, 4)]) (L := [2]) (n := 1) (hI _ (by decide) (by decide)) (by decide) (by simp [setE]) (by simp [setJ]) (by simp [setL]) rfl _ P15.out).mono ?_
    rintro e_ w16 ⟨Ax, cx, rfl, ⟨F16, hp, hf, hk⟩, hu⟩
    have U16 := Lib.hid (upd_step U15.out P15.out HB.out hu)
    have P16 := Lib.hid hp
    have Bk16 := Lib.hid (Bk15.out.upd hu Nk15.out)
    have Nk16 := Lib.hid (nb_step hf Bk15.out Nk15.out)
    have Bt16 := Lib.hid (Bt15.out.upd hu Nt15.out)
    have Nt16 := Lib.hid (nb_step hf Bt15.out Nt15.out)
    have Kx16 := Lib.hid hk
    clear hu hp hf hk U15 P15 Bk15 Bt15 Nk15 Nt15
    have k0_ : w16.cell? ⟨w.heap.size, 0, none⟩ = some (.int .i64 k1) := Bk16.out.cell 0
    have k1_ : w16.cell? ⟨w.heap.size, 1, none⟩ = some (.int .i64 k2) := Bk16.out.cell 1
    have k2_ : w16.cell? ⟨w.heap.size, 2, none⟩ = some (.int .i64 k3) := Bk16.out.cell 2
    have kl_ := Bk16.out.lt
    have t0_ : w16.cell? ⟨w.heap.size + 1, 0, none⟩ = some (.int .i64 t1) := Bt16.out.cell 0
    have t1_ : w16.cell? ⟨w.heap.size + 1, 1, none⟩ = some (.int .i64 t2) := Bt16.out.cell 1
    have t2_ : w16.cell? ⟨w.heap.size + 1, 2, none⟩ = some (.int .i64 t3) := Bt16.out.cell 2
    have tl_ := Bt16.out.lt
    go_wp2_with fail
    clear k0_ k1_ k2_ kl_ t0_ t1_ t2_ tl_
    refine (key_to (k1, k2, k3) _).mono ?_
    rintro e_ w17 ⟨rfl, hu⟩
    have U17 := Lib.hid (U16.out.trans hu (fun _ h => h.elim))
    have P17 := Lib.hid (P16.out.upd0 hu)
    have Bk17 := Lib.hid (Bk16.out.upd hu (fun h => h))
    have Nk17 := Nk16
    have Bt17 := Lib.hid (Bt16.out.upd hu (fun h => h))
    have Nt17 := Nt16
    have Kx17 := Lib.hid (Kx16.out.keep0 hu)
    clear hu U16 P16 Bk16 Bt16 Nk16 Nt16 Kx16
    have k0_ : w17.cell? ⟨w.heap.size, 0, none⟩ = some (.int .i64 k1) := Bk17.out.cell 0
    have k1_ : w17.cell? ⟨w.heap.size, 1, none⟩ = some (.int .i64 k2) := Bk17.out.cell 1
    have k2_ : w17.cell? ⟨w.heap.size, 2, none⟩ = some (.int .i64 k3) := Bk17.out.cell 2
    have kl_ := Bk17.out.lt
    have t0_ : w17.cell? ⟨w.heap.size + 1, 0, none⟩ = some (.int .i64 t1) := Bt17.out.cell 0
    have t1_ : w17.cell? ⟨w.heap.size + 1, 1, none⟩ = some (.int .i64 t2) := Bt17.out.cell 1
    have t2_ : w17.cell? ⟨w.heap.size + 1, 2, none⟩ = some (.int .i64 t3) := Bt17.out.cell 2
    have tl_ := Bt17.out.lt
    go_wp2_with fail
    clear k0_ k1_ k2_ kl_ t0_ t1_ t2_ tl_
    refine (ask_st (k := (k1, k2, k3)) (id := 5) (a := 2) (t := (0, 0, 0)) (E' := [⟨(k1, k2, k3), 3, none⟩]) (J' := [(3, 4), (3, 5)]) HK.out h0 (hI _ (by decide) (by decide)) (by decide) (by simp [askE, entK]) (by simp [askJ, entK]) (by simp [askA, entK]) (by simp [askT, entK]) _ P17.out).mono ?_
    rintro e_ w18 ⟨rfl, ⟨F18, hp, hf⟩, hu⟩
    have U18 := Lib.hid (upd_step U17.out P17.out HB.out hu)
    have P18 := Lib.hid hp
    have Bk18 := Lib.hid (Bk17.out.upd hu Nk17.out)
    have Nk18 := Lib.hid (nb_step hf Bk17.out Nk17.out)
    have Bt18 := Lib.hid (Bt17.out.upd hu Nt17.out)
    have Nt18 := Lib.hid (nb_step hf Bt17.out Nt17.out)
    have Kx18 := Lib.hid (Kx17.out.step hu (fun _ h => .inl h) hf)
    clear hu hp hf  U17 P17 Bk17 Bt17 Nk17 Nt17 Kx17
    have k0_ : w18.cell? ⟨w.heap.size, 0, none⟩ = some (.int .i64 k1) := Bk18.out.cell 0
    have k1_ : w18.cell? ⟨w.heap.size, 1, none⟩ = some (.int .i64 k2) := Bk18.out.cell 1
    have k2_ : w18.cell? ⟨w.heap.size, 2, none⟩ = some (.int .i64 k3) := Bk18.out.cell 2
    have kl_ := Bk18.out.lt
    have t0_ : w18.cell? ⟨w.heap.size + 1, 0, none⟩ = some (.int .i64 t1) := Bt18.out.cell 0
    have t1_ : w18.cell? ⟨w.heap.size + 1, 1, none⟩ = some (.int .i64 t2) := Bt18.out.cell 1
    have t2_ : w18.cell? ⟨w.heap.size + 1, 2, none⟩ = some (.int .i64 t3) := Bt18.out.cell 2
    have tl_ := Bt18.out.lt
    go_wp2_with fail
    clear k0_ k1_ k2_ kl_ t0_ t1_ t2_ tl_
    refine Calls.gen (fun W => Upd (fun _ => False) w18 W ∧ Blk W (w18.heap.size) 44 #[.int .i64 0, .int .i64 0, .int .i64 0]) ⟨(by repeat (first | exact Upd.refl _ _ | refine Upd.alloc ?_ _ | refine Upd.drew ?_ | refine Upd.drewN ?_ _ | refine Upd.put ?_ _ _)), by repeat (first | exact Blk.new _ _ _ | exact Blk.new1 _ _ _ _ | exact Blk.new2 _ _ _ _ _ | exact Blk.new3 _ _ _ _ _ _ | refine Blk.alloc ?_ _ | refine Blk.drew ?_)⟩ (fun w19 hW => ?_)
    obtain ⟨hu, hb0⟩ := hW
    have U19 := Lib.hid (U18.out.trans hu (fun _ h => h.elim))
    have P19 := Lib.hid (P18.out.upd0 hu)
    have Bk19 := Lib.hid (Bk18.out.upd hu (fun h => h))
    have Nk19 := Nk18
    have Bt19 := Lib.hid (Bt18.out.upd hu (fun h => h))
    have Nt19 := Nt18
    have Kx19 := Lib.hid (Kx18.out.keep0 hu)
    clear hu hb0 U18 P18 Bk18 Bt18 Nk18 Nt18 Kx18
    refine (told_to (t1, t2, t3) _).mono ?_
    rintro e_ w20 ⟨rfl, hu⟩
    have U20 := Lib.hid (U19.out.trans hu (fun _ h => h.elim))
    have P20 := Lib.hid (P19.out.upd0 hu)
    have Bk20 := Lib.hid (Bk19.out.upd hu (fun h => h))
    have Nk20 := Nk19
    have Bt20 := Lib.hid (Bt19.out.upd hu (fun h => h))
    have Nt20 := Nt19
    have Kx20 := Lib.hid (Kx19.out.keep0 hu)
    clear hu U19 P19 Bk19 Bt19 Nk19 Nt19 Kx19
    have k0_ : w20.cell? ⟨w.heap.size, 0, none⟩ = some (.int .i64 k1) := Bk20.out.cell 0
    have k1_ : w20.cell? ⟨w.heap.size, 1, none⟩ = some (.int .i64 k2) := Bk20.out.cell 1
    have k2_ : w20.cell? ⟨w.heap.size, 2, none⟩ = some (.int .i64 k3) := Bk20.out.cell 2
    have kl_ := Bk20.out.lt
    have t0_ : w20.cell? ⟨w.heap.size + 1, 0, none⟩ = some (.int .i64 t1) := Bt20.out.cell 0
    have t1_ : w20.cell? ⟨w.heap.size + 1, 1, none⟩ = some (.int .i64 t2) := Bt20.out.cell 1
    have t2_ : w20.cell? ⟨w.heap.size + 1, 2, none⟩ = some (.int .i64 t3) := Bt20.out.cell 2
    have tl_ := Bt20.out.lt
    go_wp2_with fail
    clear k0_ k1_ k2_ kl_ t0_ t1_ t2_ tl_
    refine (settle_st (id := 3) (t := (t1, t2, t3)) (E' := [⟨(k1, k2, k3), 3, some (t1, t2, t3)⟩]) (J' := []) (L := [4, 5]) (n := 2) (hI _ (by decide) (by decide)) (by decide) (by simp [setE]) (by simp [setJ]) (by simp [setL]) rfl _ P20.out).mono ?_
    rintro e_ w21 ⟨Ay, cy, rfl, ⟨F21, hp, hf, hk⟩, hu⟩
    have U21 := Lib.hid (upd_step U20.out P20.out HB.out hu)
    have P21 := Lib.hid hp
    have Bk21 := Lib.hid (Bk20.out.upd hu Nk20.out)
    have Nk21 := Lib.hid (nb_step hf Bk20.out Nk20.out)
    have Bt21 := Lib.hid (Bt20.out.upd hu Nt20.out)
    have Nt21 := Lib.hid (nb_step hf Bt20.out Nt20.out)
    have Kx21 := Lib.hid (Kx20.out.step hu (fun _ h => .inl h) hf)
    have Ky21 := Lib.hid hk
    clear hu hp hf hk U20 P20 Bk20 Bt20 Nk20 Nt20 Kx20
    have k0_ : w21.cell? ⟨w.heap.size, 0, none⟩ = some (.int .i64 k1) := Bk21.out.cell 0
    have k1_ : w21.cell? ⟨w.heap.size, 1, none⟩ = some (.int .i64 k2) := Bk21.out.cell 1
    have k2_ : w21.cell? ⟨w.heap.size, 2, none⟩ = some (.int .i64 k3) := Bk21.out.cell 2
    have kl_ := Bk21.out.lt
    have t0_ : w21.cell? ⟨w.heap.size + 1, 0, none⟩ = some (.int .i64 t1) := Bt21.out.cell 0
    have t1_ : w21.cell? ⟨w.heap.size + 1, 1, none⟩ = some (.int .i64 t2) := Bt21.out.cell 1
    have t2_ : w21.cell? ⟨w.heap.size + 1, 2, none⟩ = some (.int .i64 t3) := Bt21.out.cell 2
    have tl_ := Bt21.out.lt
    go_wp2_with fail
    clear k0_ k1_ k2_ kl_ t0_ t1_ t2_ tl_
    refine Calls.gen (fun W => Upd (fun _ => False) w21 W ∧ Blk W (w21.heap.size) 3 #[.int .i64 2]) ⟨(by repeat (first | exact Upd.refl _ _ | refine Upd.alloc ?_ _ | refine Upd.drew ?_ | refine Upd.drewN ?_ _ | refine Upd.put ?_ _ _)), by repeat (first | exact Blk.new _ _ _ | exact Blk.new1 _ _ _ _ | exact Blk.new2 _ _ _ _ _ | exact Blk.new3 _ _ _ _ _ _ | refine Blk.alloc ?_ _ | refine Blk.drew ?_)⟩ (fun w22 hW => ?_)
    obtain ⟨hu, hb0⟩ := hW
    have U22 := Lib.hid (U21.out.trans hu (fun _ h => h.elim))
    have P22 := Lib.hid (P21.out.upd0 hu)
    have Bk22 := Lib.hid (Bk21.out.upd hu (fun h => h))
    have Nk22 := Nk21
    have Bt22 := Lib.hid (Bt21.out.upd hu (fun h => h))
    have Nt22 := Nt21
    have Kx22 := Lib.hid (Kx21.out.keep0 hu)
    have Ky22 := Lib.hid (Ky21.out.keep0 hu)
    have Bp22 := Lib.hid hb0
    have Np22 := Lib.hid (P21.out.nb (b := w21.heap.size) (by omega))
    clear hu hb0 U21 P21 Bk21 Bt21 Nk21 Nt21 Kx21 Ky21
    refine (same_to (l := [2]) rfl (by decide) _ Kx22.out.sl (sl_new Bp22.out rfl rfl (by decide))).mono ?_
    rintro e_ w23 ⟨rfl, hu⟩
    have U23 := Lib.hid (U22.out.trans hu (fun _ h => h.elim))
    have P23 := Lib.hid (P22.out.upd0 hu)
    have Bk23 := Lib.hid (Bk22.out.upd hu (fun h => h))
    have Nk23 := Nk22
    have Bt23 := Lib.hid (Bt22.out.upd hu (fun h => h))
    have Nt23 := Nt22
    have Bp23 := Lib.hid (Bp22.out.upd hu (fun h => h))
    have Np23 := Np22
    have Kx23 := Lib.hid (Kx22.out.keep0 hu)
    have Ky23 := Lib.hid (Ky22.out.keep0 hu)
    clear hu U22 P22 Bk22 Bt22 Bp22 Nk22 Nt22 Np22 Kx22 Ky22
    have k0_ : w23.cell? ⟨w.heap.size, 0, none⟩ = some (.int .i64 k1) := Bk23.out.cell 0
    have k1_ : w23.cell? ⟨w.heap.size, 1, none⟩ = some (.int .i64 k2) := Bk23.out.cell 1
    have k2_ : w23.cell? ⟨w.heap.size, 2, none⟩ = some (.int .i64 k3) := Bk23.out.cell 2
    have kl_ := Bk23.out.lt
    have t0_ : w23.cell? ⟨w.heap.size + 1, 0, none⟩ = some (.int .i64 t1) := Bt23.out.cell 0
    have t1_ : w23.cell? ⟨w.heap.size + 1, 1, none⟩ = some (.int .i64 t2) := Bt23.out.cell 1
    have t2_ : w23.cell? ⟨w.heap.size + 1, 2, none⟩ = some (.int .i64 t3) := Bt23.out.cell 2
    have tl_ := Bt23.out.lt
    have p0_ : w23.cell? ⟨w21.heap.size, 0, none⟩ = some (.int .i64 2) := Bp23.out.cell 0
    have pl_ := Bp23.out.lt
    go_wp2_with fail
    clear k0_ k1_ k2_ kl_ t0_ t1_ t2_ tl_ p0_ pl_
    refine Calls.gen (fun W => Upd (fun _ => False) w23 W ∧ Blk W (w23.heap.size) 3 #[.int .i64 4, .int .i64 5]) ⟨(by repeat (first | exact Upd.refl _ _ | refine Upd.alloc ?_ _ | refine Upd.drew ?_ | refine Upd.drewN ?_ _ | refine Upd.put ?_ _ _)), by repeat (first | exact Blk.new _ _ _ | exact Blk.new1 _ _ _ _ | exact Blk.new2 _ _ _ _ _ | exact Blk.new3 _ _ _ _ _ _ | refine Blk.alloc ?_ _ | refine Blk.drew ?_)⟩ (fun w24 hW => ?_)
    obtain ⟨hu, hb0⟩ := hW
    have U24 := Lib.hid (U23.out.trans hu (fun _ h => h.elim))
    have P24 := Lib.hid (P23.out.upd0 hu)
    have Bk24 := Lib.hid (Bk23.out.upd hu (fun h => h))
    have Nk24 := Nk23
    have Bt24 := Lib.hid (Bt23.out.upd hu (fun h => h))
    have Nt24 := Nt23
    have Bp24 := Lib.hid (Bp23.out.upd hu (fun h => h))
    have Np24 := Np23
    have Kx24 := Lib.hid (Kx23.out.keep0 hu)
    have Ky24 := Lib.hid (Ky23.out.keep0 hu)
    have Bq24 := Lib.hid hb0
    have Nq24 := Lib.hid (P23.out.nb (b := w23.heap.size) (by omega))
    clear hu hb0 U23 P23 Bk23 Bt23 Bp23 Nk23 Nt23 Np23 Kx23 Ky23
    refine (same_to (l := [4, 5]) rfl (by decide) _ Ky24.out.sl (sl_new Bq24.out rfl rfl (by decide))).mono ?_
    rintro e_ w25 ⟨rfl, hu⟩
    have U25 := Lib.hid (U24.out.trans hu (fun _ h => h.elim))
    have P25 := Lib.hid (P24.out.upd0 hu)
    have Bk25 := Lib.hid (Bk24.out.upd hu (fun h => h))
    have Nk25 := Nk24
    have Bt25 := Lib.hid (Bt24.out.upd hu (fun h => h))
    have Nt25 := Nt24
    have Bp25 := Lib.hid (Bp24.out.upd hu (fun h => h))
    have Np25 := Np24
    have Bq25 := Lib.hid (Bq24.out.upd hu (fun h => h))
    have Nq25 := Nq24
    have Kx25 := Lib.hid (Kx24.out.keep0 hu)
    have Ky25 := Lib.hid (Ky24.out.keep0 hu)
    clear hu U24 P24 Bk24 Bt24 Bp24 Bq24 Nk24 Nt24 Np24 Nq24 Kx24 Ky24
    have k0_ : w25.cell? ⟨w.heap.size, 0, none⟩ = some (.int .i64 k1) := Bk25.out.cell 0
    have k1_ : w25.cell? ⟨w.heap.size, 1, none⟩ = some (.int .i64 k2) := Bk25.out.cell 1
    have k2_ : w25.cell? ⟨w.heap.size, 2, none⟩ = some (.int .i64 k3) := Bk25.out.cell 2
    have kl_ := Bk25.out.lt
    have t0_ : w25.cell? ⟨w.heap.size + 1, 0, none⟩ = some (.int .i64 t1) := Bt25.out.cell 0
    have t1_ : w25.cell? ⟨w.heap.size + 1, 1, none⟩ = some (.int .i64 t2) := Bt25.out.cell 1
    have t2_ : w25.cell? ⟨w.heap.size + 1, 2, none⟩ = some (.int .i64 t3) := Bt25.out.cell 2
    have tl_ := Bt25.out.lt
    have p0_ : w25.cell? ⟨w21.heap.size, 0, none⟩ = some (.int .i64 2) := Bp25.out.cell 0
    have pl_ := Bp25.out.lt
    have q0_ : w25.cell? ⟨w23.heap.size, 0, none⟩ = some (.int .i64 4) := Bq25.out.cell 0
    have q1_ : w25.cell? ⟨w23.heap.size, 1, none⟩ = some (.int .i64 5) := Bq25.out.cell 1
    have ql_ := Bq25.out.lt
    go_wp2
    clear k0_ k1_ k2_ kl_ t0_ t1_ t2_ tl_ p0_ pl_ q0_ q1_ ql_
    go_ret
    exact ⟨rfl, U25.out.below0⟩
theorem cclosed_walk {w : World} (c0 : Array Value) (w0 : Oks [.int .i64, .int .i64, .int .i64] c0.toList) (c1 : Array Value) (w1 : Oks [.int .i64, .int .i64, .int .i64] c1.toList) :
    Calls Try.prog 7 #[.agg c0, .agg c1] w fun e w' => e = .returned (.bool true) ∧ Below w.heap.size w w' := by
  obtain ⟨⟨x, y, z⟩, rfl, hk⟩ := arrK w0
  obtain ⟨t, rfl, _⟩ := arrK w1
  exact cclosed_any x y z hk t w
end Go.Proofs.Ytninaaolbgchpaa
