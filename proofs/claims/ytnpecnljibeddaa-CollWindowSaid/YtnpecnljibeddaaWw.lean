/- CollWindow. -/
import Derived.Test.YtnpecnljibeddaaAw
import Derived.Test.YtnpecnljibeddaaDd
import Derived.LoopTactic
namespace Go.Proofs.Ytnpecnljibeddaa
open Go.RowKit
attribute [local go_sem ↓] Go.wp_at_zero Go.wp_at_succ
set_option linter.unusedVariables false
set_option linter.unusedSimpArgs false

theorem win_new {a0 a1 : Int} (h0 : 0 ≤ a0) (h1 : a0 ≤ 65535) (h2 : 0 ≤ a1) (h3 : a1 ≤ 4294967295) : cadd (1 + a0) 2 none a1 1 5 = (some (([5], [(1, 0)]), a1 + (1 + a0)), true, false, a1 + (1 + a0), ([], [])) := by
  have hs : sat a1 (1 + a0) = a1 + (1 + a0) := by unfold sat; rw [if_pos (by omega)]
  unfold cadd cput
  rw [hs, if_neg (by simp)]
theorem win_more {win now id e : Int} (ms : List (Int × Int)) : cadd win 2 (some (([5], ms), e)) now id 5 = (some (([5], ms ++ [(id, 0)]), e), false, false, 0, ([], [])) := by
  unfold cadd cput
  simp [badd, idx]
theorem win_last {a0 a1 : Int} (h0 : 0 ≤ a0) (h1 : a0 ≤ 65535) (h2 : 0 ≤ a1) (h3 : a1 ≤ 4294967295) : cadd (1 + a0) 2 none (a1 + (1 + a0)) 100 5 = (some (([5], [(100, 0)]), a1 + 2 * (1 + a0)), true, false, a1 + 2 * (1 + a0), ([], [])) := by
  have hs : sat (a1 + (1 + a0)) (1 + a0) = a1 + 2 * (1 + a0) := by unfold sat; rw [if_pos (by omega)]; omega
  unfold cadd cput
  rw [hs, if_neg (by simp)]
set_option maxRecDepth 100000 in
set_option maxHeartbeats 1000000 in
theorem cwindow_any (L : Option Addr) (len cap : Nat) (l : List D4) (hl : l.length = len) (hm : len ≤ 9223372036854775807) (hwf : Wd l) (a0 a1 : Int) (h0 : 0 ≤ a0) (h1 : a0 ≤ 65535) (h2 : 0 ≤ a1) (h3 : a1 ≤ 4294967295) (w : World) (hs : Sl w L len cap (fl d4 l)) :
    Calls Try.prog 5 #[.int .u16 a0, .int .u32 a1, .slice L len cap] w fun e w' => e = .returned (.bool true) ∧ Below w.heap.size w w' := by
  have HL := Lib.hid hl
  have HS := Lib.hid hs
  have HWF := Lib.hid hwf
  have HAN := Lib.hid (win_new h0 h1 h2 h3)
  have HAL := Lib.hid (win_last h0 h1 h2 h3)
  clear hl hs hwf
  go_enter Try.func5, Try.ntmps5
  go_wp2_with fail
  refine (awake_any _).mono ?_
  rintro e_ w0 ⟨rfl, hd⟩
  have HU0 := Lib.hid (Upd.of_below hd (fun _ => False))
  clear hd
  go_wp2_with fail
  refine (new_yes (win := 1 + a0) (most := 2) ⟨by omega, by omega, by decide, by decide⟩ _).mono ?_
  rintro e_ w1 ⟨g, rfl, hi, hg, hd⟩
  have CW1 := Lib.hid (CW.start hi HU0.out hg hd)
  have HW : Hid (W64 (1 + a0)) := Lib.hid ⟨by omega, by omega⟩
  clear hi hg hd HU0
  go_wp2_with fail
  have CWx := CW1
  clear CW1
  refine (cadd_to (n := 0) (m := 0) HAN.out rfl rfl HW.out (fun _ => ⟨by omega, by omega⟩) (by decide) (by decide) CWx.out.isC).mono ?_
  rintro e_ w2 ⟨p2, A2, c2, M2, d2, rfl, hp⟩
  have CW2 := Lib.hid (CWx.out.next hp)
  clear hp CWx
  go_wp2_with fail
  have CWx := Lib.hid (CW2.out.keep0 ((Upd.refl (fun _ => False) w2).alloc (.cells #[.bool true, .bool false, .int .u64 (a1 + (1 + a0)), .slice A2 0 c2, .slice M2 0 d2] 42)))
  have BSx := Lib.hid (Blk.new w2 #[.bool true, .bool false, .int .u64 (a1 + (1 + a0)), .slice A2 0 c2, .slice M2 0 d2] 42)
  clear CW2
  go_loopw [12] (fun iv wr => ∃ (k : Nat) (F : Nat → Prop) (p : Option Nat) (ms : List (Int × Int)), k ≤ len ∧ k ≤ 20 ∧ iv = .int .i64 k ∧ ms.length = k + 1 ∧ Hid (CW w wr F g p (1 + a0) 2 (some (([5], ms), a1 + (1 + a0)))) ∧ Hid (Blk wr w2.heap.size 42 #[.bool true, .bool false, .int .u64 (a1 + (1 + a0)), .slice A2 0 c2, .slice M2 0 d2])) (fun iv _ => 20 - (intOf iv).toNat)
  case atStart => exact ⟨0, _, _, [(1, 0)], Nat.zero_le _, Nat.zero_le _, rfl, rfl, CWx, BSx⟩
  case round =>
    obtain ⟨k, F, p, ms, hk, hk2, rfl, hms, CWr, BSr⟩ := hrel
    have HMS := Lib.hid hms
    clear hms
    by_cases hlt1 : k < len
    · by_cases hlt2 : k < 20
      · skip
        obtain ⟨x, hx⟩ : ∃ x, l[k]? = some x := ⟨l[k]'(by rw [HL.out]; exact hlt1), List.getElem?_eq_getElem _⟩
        have hxw := HWF.out x (List.mem_of_getElem? hx)
        obtain ⟨b, of, e, hb, hc⟩ := (CWr.out.old HS.out).sl.row d4_len (by decide) hx
        subst e
        have f3 : wr.cell? ⟨b, of + k * 4 + 3, none⟩ = some (.int .u64 x.2.2.2) := by
          have := hc 3 _ rfl
          rwa [← Nat.add_assoc] at this
        have t0 := hxw.1
        have t1 := hxw.2
        have i0 : (0 : Int) ≤ (k : Int) := Int.natCast_nonneg _
        have i1 : (k : Int) < (len : Int) := by omega
        have i2 : (k : Int) < 20 := by omega
        clear hx hxw hc
        go_wp2_with fail
        refine (cadd_to (n := 0) (m := 0) (win_more ms) rfl rfl HW.out (fun h => by cases h) (by have := HMS.out; simp only [cmem]; omega) (by simp [cargs]) CWr.out.isC).mono ?_
        rintro e_ w5 ⟨p5, A5, c5, M5, d5, rfl, hp⟩
        have CW5 := Lib.hid (CWr.out.next hp)
        have BS5 := Lib.hid (CWr.out.blk hp BSr.out (by decide) (by decide))
        clear hp f3 hb
        go_wp2
        go_roundw
        case rel => exact ⟨k + 1, _, p5, _, by omega, by omega, by go_num, by simp [HMS.out], Lib.hid (CW5.out.keep0 ((Upd.refl (fun _ => False) w5).alloc _)), Lib.hid (BS5.out.alloc _)⟩
        case measure => simp [intOf]; omega
      · have q1 : (k : Int) < (len : Int) := by omega
        have q2 : ¬ (k : Int) < 20 := by omega
        have i0 : (0 : Int) ≤ (k : Int) := Int.natCast_nonneg _
        have CW7 := CWr
        have BS7 := BSr
        clear CWr BSr
        have BS0_ : wr.cell? ⟨w2.heap.size, 0, none⟩ = some (.bool true) := BS7.out.cell 0
        have BS1_ : wr.cell? ⟨w2.heap.size, 1, none⟩ = some (.bool false) := BS7.out.cell 1
        have BS2_ : wr.cell? ⟨w2.heap.size, 2, none⟩ = some (.int .u64 (a1 + (1 + a0))) := BS7.out.cell 2
        have BS3_ : wr.cell? ⟨w2.heap.size, 3, none⟩ = some (.slice A2 0 c2) := BS7.out.cell 3
        have BS4_ : wr.cell? ⟨w2.heap.size, 4, none⟩ = some (.slice M2 0 d2) := BS7.out.cell 4
        have BSl_ := BS7.out.lt
        go_wp2_with fail
        clear BS0_ BS1_ BS2_ BS3_ BS4_ BSl_
        have CWx := CW7
        have BSx := BS7
        clear CW7 BS7
        refine (cexp_to (n := 0) (m := 0) (b := ([], [])) (is := false) (cexp_lt (by omega)) rfl rfl CWx.out.isC).mono ?_
        rintro e_ w8 ⟨p8, A8, c8, M8, d8, rfl, hp⟩
        have CW8 := Lib.hid (CWx.out.next hp)
        have BS8 := Lib.hid (CWx.out.blk hp BSx.out (by decide) (by decide))
        clear hp CWx BSx
        have BS0_ : w8.cell? ⟨w2.heap.size, 0, none⟩ = some (.bool true) := BS8.out.cell 0
        have BS1_ : w8.cell? ⟨w2.heap.size, 1, none⟩ = some (.bool false) := BS8.out.cell 1
        have BS2_ : w8.cell? ⟨w2.heap.size, 2, none⟩ = some (.int .u64 (a1 + (1 + a0))) := BS8.out.cell 2
        have BS3_ : w8.cell? ⟨w2.heap.size, 3, none⟩ = some (.slice A2 0 c2) := BS8.out.cell 3
        have BS4_ : w8.cell? ⟨w2.heap.size, 4, none⟩ = some (.slice M2 0 d2) := BS8.out.cell 4
        have BSl_ := BS8.out.lt
        go_wp2_with fail
        clear BS0_ BS1_ BS2_ BS3_ BS4_ BSl_
        have CWx := Lib.hid (CW8.out.keep0 ((Upd.refl (fun _ => False) w8).alloc (.cells #[.slice A8 0 c8, .slice M8 0 d8] 40)))
        have BSx := Lib.hid (BS8.out.alloc (.cells #[.slice A8 0 c8, .slice M8 0 d8] 40))
        have BXx := Lib.hid (Blk.new w8 #[.slice A8 0 c8, .slice M8 0 d8] 40)
        clear CW8 BS8
        refine (cexp_to (n := 1) (m := k + 1) (b := ([5], ms)) (is := true) (cexp_ge (by omega)) rfl HMS.out CWx.out.isC).mono ?_
        rintro e_ w9 ⟨p9, A9, c9, M9, d9, rfl, hp⟩
        have CW9 := Lib.hid (CWx.out.next hp)
        have BS9 := Lib.hid (CWx.out.blk hp BSx.out (by decide) (by decide))
        have BX9 := Lib.hid (CWx.out.blk hp BXx.out (by decide) (by decide))
        clear hp CWx BSx BXx
        have BS0_ : w9.cell? ⟨w2.heap.size, 0, none⟩ = some (.bool true) := BS9.out.cell 0
        have BS1_ : w9.cell? ⟨w2.heap.size, 1, none⟩ = some (.bool false) := BS9.out.cell 1
        have BS2_ : w9.cell? ⟨w2.heap.size, 2, none⟩ = some (.int .u64 (a1 + (1 + a0))) := BS9.out.cell 2
        have BS3_ : w9.cell? ⟨w2.heap.size, 3, none⟩ = some (.slice A2 0 c2) := BS9.out.cell 3
        have BS4_ : w9.cell? ⟨w2.heap.size, 4, none⟩ = some (.slice M2 0 d2) := BS9.out.cell 4
        have BSl_ := BS9.out.lt
        have BX0_ : w9.cell? ⟨w8.heap.size, 0, none⟩ = some (.slice A8 0 c8) := BX9.out.cell 0
        have BX1_ : w9.cell? ⟨w8.heap.size, 1, none⟩ = some (.slice M8 0 d8) := BX9.out.cell 1
        have BXl_ := BX9.out.lt
        go_wp2_with fail
        clear BS0_ BS1_ BS2_ BS3_ BS4_ BSl_ BX0_ BX1_ BXl_
        have CWx := Lib.hid (CW9.out.keep0 ((Upd.refl (fun _ => False) w9).alloc (.cells #[.slice A9 1 c9, .slice M9 (k + 1) d9] 40)))
        have BSx := Lib.hid (BS9.out.alloc (.cells #[.slice A9 1 c9, .slice M9 (k + 1) d9] 40))
        have BXx := Lib.hid (BX9.out.alloc (.cells #[.slice A9 1 c9, .slice M9 (k + 1) d9] 40))
        have BYx := Lib.hid (Blk.new w9 #[.slice A9 1 c9, .slice M9 (k + 1) d9] 40)
        clear CW9 BS9 BX9
        refine (cexp_to (n := 0) (m := 0) (b := ([], [])) (is := false) rfl rfl rfl CWx.out.isC).mono ?_
        rintro e_ w10 ⟨p10, A10, c10, M10, d10, rfl, hp⟩
        have CW10 := Lib.hid (CWx.out.next hp)
        have BS10 := Lib.hid (CWx.out.blk hp BSx.out (by decide) (by decide))
        have BX10 := Lib.hid (CWx.out.blk hp BXx.out (by decide) (by decide))
        have BY10 := Lib.hid (CWx.out.blk hp BYx.out (by decide) (by decide))
        clear hp CWx BSx BXx BYx
        have BS0_ : w10.cell? ⟨w2.heap.size, 0, none⟩ = some (.bool true) := BS10.out.cell 0
        have BS1_ : w10.cell? ⟨w2.heap.size, 1, none⟩ = some (.bool false) := BS10.out.cell 1
        have BS2_ : w10.cell? ⟨w2.heap.size, 2, none⟩ = some (.int .u64 (a1 + (1 + a0))) := BS10.out.cell 2
        have BS3_ : w10.cell? ⟨w2.heap.size, 3, none⟩ = some (.slice A2 0 c2) := BS10.out.cell 3
        have BS4_ : w10.cell? ⟨w2.heap.size, 4, none⟩ = some (.slice M2 0 d2) := BS10.out.cell 4
        have BSl_ := BS10.out.lt
        have BX0_ : w10.cell? ⟨w8.heap.size, 0, none⟩ = some (.slice A8 0 c8) := BX10.out.cell 0
        have BX1_ : w10.cell? ⟨w8.heap.size, 1, none⟩ = some (.slice M8 0 d8) := BX10.out.cell 1
        have BXl_ := BX10.out.lt
        have BY0_ : w10.cell? ⟨w9.heap.size, 0, none⟩ = some (.slice A9 1 c9) := BY10.out.cell 0
        have BY1_ : w10.cell? ⟨w9.heap.size, 1, none⟩ = some (.slice M9 (k + 1) d9) := BY10.out.cell 1
        have BYl_ := BY10.out.lt
        go_wp2_with fail
        clear BS0_ BS1_ BS2_ BS3_ BS4_ BSl_ BX0_ BX1_ BXl_ BY0_ BY1_ BYl_
        have CWx := Lib.hid (CW10.out.keep0 ((Upd.refl (fun _ => False) w10).alloc (.cells #[.slice A10 0 c10, .slice M10 0 d10] 40)))
        have BSx := Lib.hid (BS10.out.alloc (.cells #[.slice A10 0 c10, .slice M10 0 d10] 40))
        have BXx := Lib.hid (BX10.out.alloc (.cells #[.slice A10 0 c10, .slice M10 0 d10] 40))
        have BYx := Lib.hid (BY10.out.alloc (.cells #[.slice A10 0 c10, .slice M10 0 d10] 40))
        have BZx := Lib.hid (Blk.new w10 #[.slice A10 0 c10, .slice M10 0 d10] 40)
        clear CW10 BS10 BX10 BY10
        refine (cadd_to (n := 0) (m := 0) HAL.out rfl rfl HW.out (fun _ => ⟨by omega, by omega⟩) (by decide) (by decide) CWx.out.isC).mono ?_
        rintro e_ w11 ⟨p11, A11, c11, M11, d11, rfl, hp⟩
        have CW11 := Lib.hid (CWx.out.next hp)
        have BS11 := Lib.hid (CWx.out.blk hp BSx.out (by decide) (by decide))
        have BX11 := Lib.hid (CWx.out.blk hp BXx.out (by decide) (by decide))
        have BY11 := Lib.hid (CWx.out.blk hp BYx.out (by decide) (by decide))
        have BZ11 := Lib.hid (CWx.out.blk hp BZx.out (by decide) (by decide))
        clear hp CWx BSx BXx BYx BZx
        have BS0_ : w11.cell? ⟨w2.heap.size, 0, none⟩ = some (.bool true) := BS11.out.cell 0
        have BS1_ : w11.cell? ⟨w2.heap.size, 1, none⟩ = some (.bool false) := BS11.out.cell 1
        have BS2_ : w11.cell? ⟨w2.heap.size, 2, none⟩ = some (.int .u64 (a1 + (1 + a0))) := BS11.out.cell 2
        have BS3_ : w11.cell? ⟨w2.heap.size, 3, none⟩ = some (.slice A2 0 c2) := BS11.out.cell 3
        have BS4_ : w11.cell? ⟨w2.heap.size, 4, none⟩ = some (.slice M2 0 d2) := BS11.out.cell 4
        have BSl_ := BS11.out.lt
        have BX0_ : w11.cell? ⟨w8.heap.size, 0, none⟩ = some (.slice A8 0 c8) := BX11.out.cell 0
        have BX1_ : w11.cell? ⟨w8.heap.size, 1, none⟩ = some (.slice M8 0 d8) := BX11.out.cell 1
        have BXl_ := BX11.out.lt
        have BY0_ : w11.cell? ⟨w9.heap.size, 0, none⟩ = some (.slice A9 1 c9) := BY11.out.cell 0
        have BY1_ : w11.cell? ⟨w9.heap.size, 1, none⟩ = some (.slice M9 (k + 1) d9) := BY11.out.cell 1
        have BYl_ := BY11.out.lt
        have BZ0_ : w11.cell? ⟨w10.heap.size, 0, none⟩ = some (.slice A10 0 c10) := BZ11.out.cell 0
        have BZ1_ : w11.cell? ⟨w10.heap.size, 1, none⟩ = some (.slice M10 0 d10) := BZ11.out.cell 1
        have BZl_ := BZ11.out.lt
        have UF := Lib.hid (CW11.out.upd.alloc (.cells #[.bool true, .bool false, .int .u64 (a1 + 2 * (1 + a0)), .slice A11 0 c11, .slice M11 0 d11] 42))
        go_wp2
        go_ret
        exact ⟨rfl, UF.out.below0⟩
    · have q1 : ¬ (k : Int) < (len : Int) := by omega
      have i0 : (0 : Int) ≤ (k : Int) := Int.natCast_nonneg _
      have CW7 := CWr
      have BS7 := BSr
      clear CWr BSr
      have BS0_ : wr.cell? ⟨w2.heap.size, 0, none⟩ = some (.bool true) := BS7.out.cell 0
      have BS1_ : wr.cell? ⟨w2.heap.size, 1, none⟩ = some (.bool false) := BS7.out.cell 1
      have BS2_ : wr.cell? ⟨w2.heap.size, 2, none⟩ = some (.int .u64 (a1 + (1 + a0))) := BS7.out.cell 2
      have BS3_ : wr.cell? ⟨w2.heap.size, 3, none⟩ = some (.slice A2 0 c2) := BS7.out.cell 3
      have BS4_ : wr.cell? ⟨w2.heap.size, 4, none⟩ = some (.slice M2 0 d2) := BS7.out.cell 4
      have BSl_ := BS7.out.lt
      go_wp2_with fail
      clear BS0_ BS1_ BS2_ BS3_ BS4_ BSl_
      have CWx := CW7
      have BSx := BS7
      clear CW7 BS7
      refine (cexp_to (n := 0) (m := 0) (b := ([], [])) (is := false) (cexp_lt (by omega)) rfl rfl CWx.out.isC).mono ?_
      rintro e_ w8 ⟨p8, A8, c8, M8, d8, rfl, hp⟩
      have CW8 := Lib.hid (CWx.out.next hp)
      have BS8 := Lib.hid (CWx.out.blk hp BSx.out (by decide) (by decide))
      clear hp CWx BSx
      have BS0_ : w8.cell? ⟨w2.heap.size, 0, none⟩ = some (.bool true) := BS8.out.cell 0
      have BS1_ : w8.cell? ⟨w2.heap.size, 1, none⟩ = some (.bool false) := BS8.out.cell 1
      have BS2_ : w8.cell? ⟨w2.heap.size, 2, none⟩ = some (.int .u64 (a1 + (1 + a0))) := BS8.out.cell 2
      have BS3_ : w8.cell? ⟨w2.heap.size, 3, none⟩ = some (.slice A2 0 c2) := BS8.out.cell 3
      have BS4_ : w8.cell? ⟨w2.heap.size, 4, none⟩ = some (.slice M2 0 d2) := BS8.out.cell 4
      have BSl_ := BS8.out.lt
      go_wp2_with fail
      clear BS0_ BS1_ BS2_ BS3_ BS4_ BSl_
      have CWx := Lib.hid (CW8.out.keep0 ((Upd.refl (fun _ => False) w8).alloc (.cells #[.slice A8 0 c8, .slice M8 0 d8] 40)))
      have BSx := Lib.hid (BS8.out.alloc (.cells #[.slice A8 0 c8, .slice M8 0 d8] 40))
      have BXx := Lib.hid (Blk.new w8 #[.slice A8 0 c8, .slice M8 0 d8] 40)
      clear CW8 BS8
      refine (cexp_to (n := 1) (m := k + 1) (b := ([5], ms)) (is := true) (cexp_ge (by omega)) rfl HMS.out CWx.out.isC).mono ?_
      rintro e_ w9 ⟨p9, A9, c9, M9, d9, rfl, hp⟩
      have CW9 := Lib.hid (CWx.out.next hp)
      have BS9 := Lib.hid (CWx.out.blk hp BSx.out (by decide) (by decide))
      have BX9 := Lib.hid (CWx.out.blk hp BXx.out (by decide) (by decide))
      clear hp CWx BSx BXx
      have BS0_ : w9.cell? ⟨w2.heap.size, 0, none⟩ = some (.bool true) := BS9.out.cell 0
      have BS1_ : w9.cell? ⟨w2.heap.size, 1, none⟩ = some (.bool false) := BS9.out.cell 1
      have BS2_ : w9.cell? ⟨w2.heap.size, 2, none⟩ = some (.int .u64 (a1 + (1 + a0))) := BS9.out.cell 2
      have BS3_ : w9.cell? ⟨w2.heap.size, 3, none⟩ = some (.slice A2 0 c2) := BS9.out.cell 3
      have BS4_ : w9.cell? ⟨w2.heap.size, 4, none⟩ = some (.slice M2 0 d2) := BS9.out.cell 4
      have BSl_ := BS9.out.lt
      have BX0_ : w9.cell? ⟨w8.heap.size, 0, none⟩ = some (.slice A8 0 c8) := BX9.out.cell 0
      have BX1_ : w9.cell? ⟨w8.heap.size, 1, none⟩ = some (.slice M8 0 d8) := BX9.out.cell 1
      have BXl_ := BX9.out.lt
      go_wp2_with fail
      clear BS0_ BS1_ BS2_ BS3_ BS4_ BSl_ BX0_ BX1_ BXl_
      have CWx := Lib.hid (CW9.out.keep0 ((Upd.refl (fun _ => False) w9).alloc (.cells #[.slice A9 1 c9, .slice M9 (k + 1) d9] 40)))
      have BSx := Lib.hid (BS9.out.alloc (.cells #[.slice A9 1 c9, .slice M9 (k + 1) d9] 40))
      have BXx := Lib.hid (BX9.out.alloc (.cells #[.slice A9 1 c9, .slice M9 (k + 1) d9] 40))
      have BYx := Lib.hid (Blk.new w9 #[.slice A9 1 c9, .slice M9 (k + 1) d9] 40)
      clear CW9 BS9 BX9
      refine (cexp_to (n := 0) (m := 0) (b := ([], [])) (is := false) rfl rfl rfl CWx.out.isC).mono ?_
      rintro e_ w10 ⟨p10, A10, c10, M10, d10, rfl, hp⟩
      have CW10 := Lib.hid (CWx.out.next hp)
      have BS10 := Lib.hid (CWx.out.blk hp BSx.out (by decide) (by decide))
      have BX10 := Lib.hid (CWx.out.blk hp BXx.out (by decide) (by decide))
      have BY10 := Lib.hid (CWx.out.blk hp BYx.out (by decide) (by decide))
      clear hp CWx BSx BXx BYx
      have BS0_ : w10.cell? ⟨w2.heap.size, 0, none⟩ = some (.bool true) := BS10.out.cell 0
      have BS1_ : w10.cell? ⟨w2.heap.size, 1, none⟩ = some (.bool false) := BS10.out.cell 1
      have BS2_ : w10.cell? ⟨w2.heap.size, 2, none⟩ = some (.int .u64 (a1 + (1 + a0))) := BS10.out.cell 2
      have BS3_ : w10.cell? ⟨w2.heap.size, 3, none⟩ = some (.slice A2 0 c2) := BS10.out.cell 3
      have BS4_ : w10.cell? ⟨w2.heap.size, 4, none⟩ = some (.slice M2 0 d2) := BS10.out.cell 4
      have BSl_ := BS10.out.lt
      have BX0_ : w10.cell? ⟨w8.heap.size, 0, none⟩ = some (.slice A8 0 c8) := BX10.out.cell 0
      have BX1_ : w10.cell? ⟨w8.heap.size, 1, none⟩ = some (.slice M8 0 d8) := BX10.out.cell 1
      have BXl_ := BX10.out.lt
      have BY0_ : w10.cell? ⟨w9.heap.size, 0, none⟩ = some (.slice A9 1 c9) := BY10.out.cell 0
      have BY1_ : w10.cell? ⟨w9.heap.size, 1, none⟩ = some (.slice M9 (k + 1) d9) := BY10.out.cell 1
      have BYl_ := BY10.out.lt
      go_wp2_with fail
      clear BS0_ BS1_ BS2_ BS3_ BS4_ BSl_ BX0_ BX1_ BXl_ BY0_ BY1_ BYl_
      have CWx := Lib.hid (CW10.out.keep0 ((Upd.refl (fun _ => False) w10).alloc (.cells #[.slice A10 0 c10, .slice M10 0 d10] 40)))
      have BSx := Lib.hid (BS10.out.alloc (.cells #[.slice A10 0 c10, .slice M10 0 d10] 40))
      have BXx := Lib.hid (BX10.out.alloc (.cells #[.slice A10 0 c10, .slice M10 0 d10] 40))
      have BYx := Lib.hid (BY10.out.alloc (.cells #[.slice A10 0 c10, .slice M10 0 d10] 40))
      have BZx := Lib.hid (Blk.new w10 #[.slice A10 0 c10, .slice M10 0 d10] 40)
      clear CW10 BS10 BX10 BY10
      refine (cadd_to (n := 0) (m := 0) HAL.out rfl rfl HW.out (fun _ => ⟨by omega, by omega⟩) (by decide) (by decide) CWx.out.isC).mono ?_
      rintro e_ w11 ⟨p11, A11, c11, M11, d11, rfl, hp⟩
      have CW11 := Lib.hid (CWx.out.next hp)
      have BS11 := Lib.hid (CWx.out.blk hp BSx.out (by decide) (by decide))
      have BX11 := Lib.hid (CWx.out.blk hp BXx.out (by decide) (by decide))
      have BY11 := Lib.hid (CWx.out.blk hp BYx.out (by decide) (by decide))
      have BZ11 := Lib.hid (CWx.out.blk hp BZx.out (by decide) (by decide))
      clear hp CWx BSx BXx BYx BZx
      have BS0_ : w11.cell? ⟨w2.heap.size, 0, none⟩ = some (.bool true) := BS11.out.cell 0
      have BS1_ : w11.cell? ⟨w2.heap.size, 1, none⟩ = some (.bool false) := BS11.out.cell 1
      have BS2_ : w11.cell? ⟨w2.heap.size, 2, none⟩ = some (.int .u64 (a1 + (1 + a0))) := BS11.out.cell 2
      have BS3_ : w11.cell? ⟨w2.heap.size, 3, none⟩ = some (.slice A2 0 c2) := BS11.out.cell 3
      have BS4_ : w11.cell? ⟨w2.heap.size, 4, none⟩ = some (.slice M2 0 d2) := BS11.out.cell 4
      have BSl_ := BS11.out.lt
      have BX0_ : w11.cell? ⟨w8.heap.size, 0, none⟩ = some (.slice A8 0 c8) := BX11.out.cell 0
      have BX1_ : w11.cell? ⟨w8.heap.size, 1, none⟩ = some (.slice M8 0 d8) := BX11.out.cell 1
      have BXl_ := BX11.out.lt
      have BY0_ : w11.cell? ⟨w9.heap.size, 0, none⟩ = some (.slice A9 1 c9) := BY11.out.cell 0
      have BY1_ : w11.cell? ⟨w9.heap.size, 1, none⟩ = some (.slice M9 (k + 1) d9) := BY11.out.cell 1
      have BYl_ := BY11.out.lt
      have BZ0_ : w11.cell? ⟨w10.heap.size, 0, none⟩ = some (.slice A10 0 c10) := BZ11.out.cell 0
      have BZ1_ : w11.cell? ⟨w10.heap.size, 1, none⟩ = some (.slice M10 0 d10) := BZ11.out.cell 1
      have BZl_ := BZ11.out.lt
      have UF := Lib.hid (CW11.out.upd.alloc (.cells #[.bool true, .bool false, .int .u64 (a1 + 2 * (1 + a0)), .slice A11 0 c11, .slice M11 0 d11] 42))
      go_wp2
      go_ret
      exact ⟨rfl, UF.out.below0⟩

theorem cwindow_walk {w : World} (a0 : Int) (w0 : (Lit.int .u16 a0).wf = true) (a1 : Int) (w1 : (Lit.int .u32 a1).wf = true) (A2 : Option Addr) (len2 cap2 : Nat) (L2 : List (List Value)) (hL2 : L2.length = len2) (hlc2 : len2 ≤ cap2) (hm2 : cap2 ≤ maxLen) (hn2 : A2 = none → len2 = 0 ∧ cap2 = 0) (hok2 : ∀ row ∈ L2, Oks d4s row) (hr2 : Rows w A2 4 L2) :
    Calls Try.prog 5 #[.int .u16 a0, .int .u32 a1, .slice A2 len2 cap2] w fun e w' => e = .returned (.bool true) ∧ Below w.heap.size w w' := by
  obtain ⟨l, hl, hwf, hs⟩ := sl_rows (enc := d4) d4_len (by decide) d4_dec hL2 hlc2 hm2 hn2 hok2 hr2
  unfold maxLen at hm2
  simp only [Lit.wf, Bool.and_eq_true, decide_eq_true_eq] at w0 w1
  exact cwindow_any A2 len2 cap2 l hl (by omega) hwf a0 a1 w0.1 w0.2 w1.1 w1.2 w hs
end Go.Proofs.Ytnpecnljibeddaa
