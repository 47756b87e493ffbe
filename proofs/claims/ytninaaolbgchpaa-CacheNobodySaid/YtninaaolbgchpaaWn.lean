/- CacheNobody. -/
import Derived.Test.YtninaaolbgchpaaAw
namespace Go.Proofs.Ytninaaolbgchpaa
open Go.RowKit
set_option linter.unusedVariables false
set_option linter.unusedSimpArgs false

set_option maxHeartbeats 8000000 in
theorem cnobody_any (k1 k2 k3 id : Int) (hid : iok id) (w : World) : Calls Try.prog 8 #[kval (k1, k2, k3), .int .i64 id] w fun e w' => e = .returned (.bool true) ∧ Below w.heap.size w w' := by
  have U0 : Hid (Upd (fun _ => False) w w) := Lib.hid (Upd.refl _ w)
  have HID := Lib.hid hid
  clear hid
  go_enter Try.func8, Try.ntmps8
  go_wp2_with fail
  refine Calls.gen (fun W => Upd (fun _ => False) w W ∧ Blk W (w.heap.size) 33 #[.int .i64 k1, .int .i64 k2, .int .i64 k3]) ⟨(by repeat (first | exact Upd.refl _ _ | refine Upd.alloc ?_ _ | refine Upd.drew ?_ | refine Upd.drewN ?_ _ | refine Upd.put ?_ _ _)), by repeat (first | exact Blk.new _ _ _ | exact Blk.new1 _ _ _ _ | exact Blk.new2 _ _ _ _ _ | exact Blk.new3 _ _ _ _ _ _ | refine Blk.alloc ?_ _ | refine Blk.drew ?_)⟩ (fun w1 hW => ?_)
  obtain ⟨hu, hb0⟩ := hW
  have U1 := Lib.hid (U0.out.trans hu (fun _ h => h.elim))
  have Bk1 := Lib.hid hb0
  clear hu hb0 U0
  refine (awake_to _).mono ?_
  rintro e_ w2 ⟨rfl, hu⟩
  have U2 := Lib.hid (U1.out.trans hu (fun _ h => h.elim))
  have Bk2 := Lib.hid (Bk1.out.upd hu (fun h => h))
  clear hu U1 Bk1
  have k0_ : w2.cell? ⟨w.heap.size, 0, none⟩ = some (.int .i64 k1) := Bk2.out.cell 0
  have k1_ : w2.cell? ⟨w.heap.size, 1, none⟩ = some (.int .i64 k2) := Bk2.out.cell 1
  have k2_ : w2.cell? ⟨w.heap.size, 2, none⟩ = some (.int .i64 k3) := Bk2.out.cell 2
  have kl_ := Bk2.out.lt
  go_wp2_with fail
  clear k0_ k1_ k2_ kl_
  refine (key_to (k1, k2, k3) _).mono ?_
  rintro e_ w3 ⟨rfl, hu⟩
  have U3 := Lib.hid (U2.out.trans hu (fun _ h => h.elim))
  have Bk3 := Lib.hid (Bk2.out.upd hu (fun h => h))
  clear hu U2 Bk2
  have k0_ : w3.cell? ⟨w.heap.size, 0, none⟩ = some (.int .i64 k1) := Bk3.out.cell 0
  have k1_ : w3.cell? ⟨w.heap.size, 1, none⟩ = some (.int .i64 k2) := Bk3.out.cell 1
  have k2_ : w3.cell? ⟨w.heap.size, 2, none⟩ = some (.int .i64 k3) := Bk3.out.cell 2
  have kl_ := Bk3.out.lt
  go_wp2_with fail
  clear k0_ k1_ k2_ kl_
  refine (ask_nil (k1, k2, k3) id _).mono ?_
  rintro e_ w4 ⟨rfl, hu⟩
  have U4 := Lib.hid (U3.out.trans hu (fun _ h => h.elim))
  have Bk4 := Lib.hid (Bk3.out.upd hu (fun h => h))
  clear hu U3 Bk3
  have k0_ : w4.cell? ⟨w.heap.size, 0, none⟩ = some (.int .i64 k1) := Bk4.out.cell 0
  have k1_ : w4.cell? ⟨w.heap.size, 1, none⟩ = some (.int .i64 k2) := Bk4.out.cell 1
  have k2_ : w4.cell? ⟨w.heap.size, 2, none⟩ = some (.int .i64 k3) := Bk4.out.cell 2
  have kl_ := Bk4.out.lt
  go_wp2_with fail
  clear k0_ k1_ k2_ kl_
  refine Calls.gen (fun W => Upd (fun _ => False) w4 W ∧ Blk W (w4.heap.size) 44 #[.int .i64 0, .int .i64 0, .int .i64 0]) ⟨(by repeat (first | exact Upd.refl _ _ | refine Upd.alloc ?_ _ | refine Upd.drew ?_ | refine Upd.drewN ?_ _ | refine Upd.put ?_ _ _)), by repeat (first | exact Blk.new _ _ _ | exact Blk.new1 _ _ _ _ | exact Blk.new2 _ _ _ _ _ | exact Blk.new3 _ _ _ _ _ _ | refine Blk.alloc ?_ _ | refine Blk.drew ?_)⟩ (fun w5 hW => ?_)
  obtain ⟨hu, hb0⟩ := hW
  have U5 := Lib.hid (U4.out.trans hu (fun _ h => h.elim))
  have Bk5 := Lib.hid (Bk4.out.upd hu (fun h => h))
  clear hu hb0 U4 Bk4
  refine (cnew_to _).mono ?_
  rintro e_ w6 ⟨gg, bk, bj, rfl, hp, hu⟩
  have HB : Hid (w.heap.size ≤ w5.heap.size) := Lib.hid U5.out.size
  have U6 := Lib.hid (U5.out.trans hu (fun _ h => h.elim))
  have P6 := Lib.hid hp
  have Bk6 := Lib.hid (Bk5.out.upd hu (fun h => h))
  have Nk6 := Lib.hid (hp.nlow Bk5.out.lt)
  clear hu hp U5 Bk5
  have k0_ : w6.cell? ⟨w.heap.size, 0, none⟩ = some (.int .i64 k1) := Bk6.out.cell 0
  have k1_ : w6.cell? ⟨w.heap.size, 1, none⟩ = some (.int .i64 k2) := Bk6.out.cell 1
  have k2_ : w6.cell? ⟨w.heap.size, 2, none⟩ = some (.int .i64 k3) := Bk6.out.cell 2
  have kl_ := Bk6.out.lt
  go_wp2_with fail
  clear k0_ k1_ k2_ kl_
  refine (settle_nil id (0, 0, 0) _).mono ?_
  rintro e_ w7 ⟨rfl, hu⟩
  have U7 := Lib.hid (U6.out.trans hu (fun _ h => h.elim))
  have P7 := Lib.hid (P6.out.upd0 hu)
  have Bk7 := Lib.hid (Bk6.out.upd hu (fun h => h))
  have Nk7 := Nk6
  clear hu U6 P6 Bk6 Nk6
  have k0_ : w7.cell? ⟨w.heap.size, 0, none⟩ = some (.int .i64 k1) := Bk7.out.cell 0
  have k1_ : w7.cell? ⟨w.heap.size, 1, none⟩ = some (.int .i64 k2) := Bk7.out.cell 1
  have k2_ : w7.cell? ⟨w.heap.size, 2, none⟩ = some (.int .i64 k3) := Bk7.out.cell 2
  have kl_ := Bk7.out.lt
  go_wp2_with fail
  clear k0_ k1_ k2_ kl_
  refine (close_nil k1 _).mono ?_
  rintro e_ w8 ⟨rfl, hu⟩
  have U8 := Lib.hid (U7.out.trans hu (fun _ h => h.elim))
  have P8 := Lib.hid (P7.out.upd0 hu)
  have Bk8 := Lib.hid (Bk7.out.upd hu (fun h => h))
  have Nk8 := Nk7
  clear hu U7 P7 Bk7 Nk7
  have k0_ : w8.cell? ⟨w.heap.size, 0, none⟩ = some (.int .i64 k1) := Bk8.out.cell 0
  have k1_ : w8.cell? ⟨w.heap.size, 1, none⟩ = some (.int .i64 k2) := Bk8.out.cell 1
  have k2_ : w8.cell? ⟨w.heap.size, 2, none⟩ = some (.int .i64 k3) := Bk8.out.cell 2
  have kl_ := Bk8.out.lt
  go_wp2_with fail
  clear k0_ k1_ k2_ kl_
  refine (len_nil _).mono ?_
  rintro e_ w9 ⟨rfl, hu⟩
  have U9 := Lib.hid (U8.out.trans hu (fun _ h => h.elim))
  have P9 := Lib.hid (P8.out.upd0 hu)
  have Bk9 := Lib.hid (Bk8.out.upd hu (fun h => h))
  have Nk9 := Nk8
  clear hu U8 P8 Bk8 Nk8
  have k0_ : w9.cell? ⟨w.heap.size, 0, none⟩ = some (.int .i64 k1) := Bk9.out.cell 0
  have k1_ : w9.cell? ⟨w.heap.size, 1, none⟩ = some (.int .i64 k2) := Bk9.out.cell 1
  have k2_ : w9.cell? ⟨w.heap.size, 2, none⟩ = some (.int .i64 k3) := Bk9.out.cell 2
  have kl_ := Bk9.out.lt
  go_wp2_with fail
  clear k0_ k1_ k2_ kl_
  refine (settle_st (id := id) (t := (1, 0, 0)) (E' := []) (J' := []) (L := []) (n := 0) HID.out (by decide) rfl rfl rfl rfl _ P9.out).mono ?_
  rintro e_ w10 ⟨Al, cl, rfl, ⟨F10, hp, hf, hk⟩, hu⟩
  have U10 := Lib.hid (upd_step U9.out P9.out HB.out hu)
  have P10 := Lib.hid hp
  have Bk10 := Lib.hid (Bk9.out.upd hu Nk9.out)
  have Nk10 := Lib.hid (nb_step hf Bk9.out Nk9.out)
  have Kl10 := Lib.hid hk
  clear hu hp hf hk U9 P9 Bk9 Nk9
  have k0_ : w10.cell? ⟨w.heap.size, 0, none⟩ = some (.int .i64 k1) := Bk10.out.cell 0
  have k1_ : w10.cell? ⟨w.heap.size, 1, none⟩ = some (.int .i64 k2) := Bk10.out.cell 1
  have k2_ : w10.cell? ⟨w.heap.size, 2, none⟩ = some (.int .i64 k3) := Bk10.out.cell 2
  have kl_ := Bk10.out.lt
  go_wp2_with fail
  clear k0_ k1_ k2_ kl_
  refine (len_st (n := 0) rfl _ P10.out).mono ?_
  rintro e_ w11 ⟨rfl, hu⟩
  have U11 := Lib.hid (U10.out.trans hu (fun _ h => h.elim))
  have P11 := Lib.hid (P10.out.upd0 hu)
  have Bk11 := Lib.hid (Bk10.out.upd hu (fun h => h))
  have Nk11 := Nk10
  have Kl11 := Lib.hid (Kl10.out.keep0 hu)
  clear hu U10 P10 Bk10 Nk10 Kl10
  have k0_ : w11.cell? ⟨w.heap.size, 0, none⟩ = some (.int .i64 k1) := Bk11.out.cell 0
  have k1_ : w11.cell? ⟨w.heap.size, 1, none⟩ = some (.int .i64 k2) := Bk11.out.cell 1
  have k2_ : w11.cell? ⟨w.heap.size, 2, none⟩ = some (.int .i64 k3) := Bk11.out.cell 2
  have kl_ := Bk11.out.lt
  go_wp2_with fail
  clear k0_ k1_ k2_ kl_
  refine (close_st (s := k1) (E' := []) (n := 0) (by decide) rfl rfl _ P11.out).mono ?_
  rintro e_ w12 ⟨rfl, hp, hu⟩
  have U12 := Lib.hid (upd_step U11.out P11.out HB.out hu)
  have P12 := Lib.hid hp
  have Bk12 := Lib.hid (Bk11.out.upd hu Nk11.out)
  have Nk12 := Nk11
  have Kl12 := Lib.hid (Kl11.out.keep hu (fun _ h => h))
  clear hu hp U11 P11 Bk11 Nk11 Kl11
  have k0_ : w12.cell? ⟨w.heap.size, 0, none⟩ = some (.int .i64 k1) := Bk12.out.cell 0
  have k1_ : w12.cell? ⟨w.heap.size, 1, none⟩ = some (.int .i64 k2) := Bk12.out.cell 1
  have k2_ : w12.cell? ⟨w.heap.size, 2, none⟩ = some (.int .i64 k3) := Bk12.out.cell 2
  have kl_ := Bk12.out.lt
  go_wp2
  clear k0_ k1_ k2_ kl_
  go_ret
  exact ⟨rfl, U12.out.below0⟩
theorem cnobody_walk {w : World} (c0 : Array Value) (w0 : Oks [.int .i64, .int .i64, .int .i64] c0.toList) (a1 : Int) (w1 : (Lit.int .i64 a1).wf = true) :
    Calls Try.prog 8 #[.agg c0, .int .i64 a1] w fun e w' => e = .returned (.bool true) ∧ Below w.heap.size w w' := by
  obtain ⟨⟨x, y, z⟩, rfl, hk⟩ := arrK w0
  exact cnobody_any x y z a1 w1 w
end Go.Proofs.Ytninaaolbgchpaa
