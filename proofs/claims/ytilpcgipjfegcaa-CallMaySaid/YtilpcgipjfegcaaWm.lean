/- CallMay. -/
import Derived.Test.YtilpcgipjfegcaaWg
import Derived.Test.YtilpcgipjfegcaaWu
namespace Go.Proofs.Ytilpcgipjfegcaa
open Go.RowKit
set_option linter.unusedVariables false
set_option linter.unusedSimpArgs false

theorem u8_0 {a : Int} (h : (Lit.int .u8 a).wf = true) : 0 ≤ a := by
  simp only [Lit.wf, Bool.and_eq_true, decide_eq_true_eq] at h
  exact h.1
theorem u8_1 {a : Int} (h : (Lit.int .u8 a).wf = true) : a ≤ 255 := by
  simp only [Lit.wf, Bool.and_eq_true, decide_eq_true_eq] at h
  exact h.2
theorem cause_of {a : Int} (h0 : 0 ≤ a) (h1 : a ≤ 255) : 1 ≤ wrap64 (1 + wrap64 (a.tmod 4)) ∧ wrap64 (1 + wrap64 (a.tmod 4)) ≤ 4 := by
  rw [Int.tmod_eq_emod_of_nonneg h0]
  unfold wrap64
  omega
theorem couts_at {n : Nat} {ms : List (Int × Int)} {cs kind now : Int} {vals : List Int} {i : Nat} {o : O5} (h1 : 1 ≤ cs) (h4 : cs ≤ 4) (h : (couts n ms cs kind vals now)[i]? = some o) :
    ∃ m cz vl, ms[i]? = some m ∧ o = (m.1, kind, cz, vl, now) ∧ omay o = true := by
  unfold couts at h
  split at h
  · rename_i hk
    subst hk
    rw [List.getElem?_map, Option.map_eq_some_iff] at h
    obtain ⟨m, hm, rfl⟩ := h
    exact ⟨m, cs, 0, hm, rfl, by simp [omay, h1, h4]⟩
  · split at h
    · rename_i hk
      split at h
      · split at h
        · rename_i l hl
          rw [List.getElem?_map, Option.map_eq_some_iff] at h
          obtain ⟨x, hx, rfl⟩ := h
          have hlt := (List.getElem?_eq_some_iff.1 hx).1
          rw [psplit_len hl] at hlt
          obtain ⟨y, hy⟩ := psplit_at hl i _ (List.getElem?_eq_getElem hlt)
          rw [hx] at hy
          injection hy with hy
          subst hy
          refine ⟨_, _, _, List.getElem?_eq_getElem hlt, rfl, ?_⟩
          rcases hk with rfl | rfl <;> simp [omay, h1, h4]
        · simp at h
      · simp at h
    · simp at h
theorem couts_2 (n : Nat) (ms : List (Int × Int)) (cs now : Int) (vals : List Int) : (couts n ms cs 2 vals now).length = 0 := by simp [couts]
theorem couts_4 (n : Nat) (ms : List (Int × Int)) (cs now : Int) (vals : List Int) : (couts n ms cs 4 vals now).length = ms.length := by simp [couts]
theorem couts_13 {n : Nat} {ms : List (Int × Int)} {cs now kind : Int} {vals : List Int} (hk : kind = 1 ∨ kind = 3) (hb : (decide (vals.length = n) && (psplit vals ms).isSome) = true) : (couts n ms cs kind vals now).length = ms.length := by
  simp only [Bool.and_eq_true, decide_eq_true_eq] at hb
  obtain ⟨hn, hs⟩ := hb
  obtain ⟨l, hl⟩ := Option.isSome_iff_exists.1 hs
  unfold couts
  rw [if_neg (by rcases hk with rfl | rfl <;> decide), if_pos hk, if_pos hn, hl]
  simp [psplit_len hl]
theorem rsplit_b {A M V : Option Addr} {c d q n m vl : Nat} {ms : List (Int × Int)} {vals : List Int} {b : Bool} (hb : (decide (vals.length = n) && (psplit vals ms).isSome) = b) (hm0 : ms.length = m) (hv0 : vals.length = vl) (hn : n ≤ 9223372036854775807) (hml : m ≤ 1000) (hvl : vl ≤ 1000) (w : World) (hm : Sl w M m d (prs ms)) (hv : Sl w V vl q (nums vals)) :
    Calls Try.prog 24 #[.agg #[.slice A n c, .slice M m d], .slice V vl q] w fun e w' => ∃ A' r c', e = .returned (.tuple #[.slice A' r c', .bool b]) ∧ Below w.heap.size w w' := by
  refine (rsplit_any A M V c d q n m vl ms vals hm0 hv0 hn hml hvl w hm hv).mono ?_
  rintro e w' (⟨l, A', c', h1, h2, rfl, _, hd⟩ | ⟨h1, rfl, hd⟩)
  · rw [h1, h2] at hb
    simp at hb
    subst hb
    exact ⟨A', _, c', rfl, hd⟩
  · refine ⟨none, 0, 0, ?_, hd⟩
    have : b = false := by
      rw [← hb]
      rcases h1 with h1 | h1
      · simp [h1]
      · simp [h1]
    rw [this]
theorem fieldB (A X : Option Addr) (n c m e : Nat) (st sp cs sa : Int) (W : World) : (Instr.field 38 (.agg #[.slice A n c, .slice X m e, .int .i64 st, .int .i64 sp, .int .i64 cs, .int .u64 sa]) 0).run Try.prog W = .ok (.agg #[.slice A n c, .slice X m e]) W := by
  first | kernel_rfl | rfl | go_simp
set_option maxHeartbeats 20000000 in
set_option maxRecDepth 100000 in
theorem callmay_any (A M V : Option Addr) (n c m d q v : Nat) (st sp cs sa a : Int) (xs : List Int) (ms : List (Int × Int)) (vals : List Int) (hn : xs.length = n) (hm : ms.length = m) (hv : vals.length = v) (hn1 : n ≤ 9223372036854775807) (hm1 : m ≤ 9223372036854775807) (hv1 : v ≤ 9223372036854775807) (h0 : 0 ≤ a) (h1 : a ≤ 255) (w : World) (ha : Sl w A n c (nums xs)) (hs : Sl w M m d (prs ms)) (hsv : Sl w V v q (nums vals)) :
    Calls Try.prog 8 #[.agg #[.slice A n c, .slice M m d, .int .i64 st, .int .i64 sp, .int .i64 cs, .int .u64 sa], .int .u8 a, .slice V v q] w fun e w' => e = .returned (.bool true) ∧ Below w.heap.size w w' := by
  have HN := Lib.hid hn
  have HCO := Lib.hid (cause_of h0 h1)
  clear h0 h1
  have HM := Lib.hid hm
  have HAw := Lib.hid ha
  have HSw := Lib.hid hs
  have HV := Lib.hid hv
  have HA0 := Lib.hid (ha.alloc (.cells #[.slice A n c, .slice M m d, .int .i64 st, .int .i64 sp, .int .i64 cs, .int .u64 sa] 28))
  have HS0 := Lib.hid (hs.alloc (.cells #[.slice A n c, .slice M m d, .int .i64 st, .int .i64 sp, .int .i64 cs, .int .u64 sa] 28))
  have HSV0 := Lib.hid (hsv.alloc (.cells #[.slice A n c, .slice M m d, .int .i64 st, .int .i64 sp, .int .i64 cs, .int .u64 sa] 28))
  have BC0 := Lib.hid (Blk.new w #[.slice A n c, .slice M m d, .int .i64 st, .int .i64 sp, .int .i64 cs, .int .u64 sa] 28)
  have U0 : Hid (Upd (fun _ => False) w _) := Lib.hid ((Upd.refl (fun _ => False) w).alloc (.cells #[.slice A n c, .slice M m d, .int .i64 st, .int .i64 sp, .int .i64 cs, .int .u64 sa] 28))
  clear ha hs hn hm hsv hv
  go_enter Try.func8, Try.ntmps8
  go_wp2_with fail
  refine (awake_any _).mono ?_
  rintro e w1 ⟨rfl, hd⟩
  have hu := Upd.of_below hd (fun _ => False)
  have HA1 := Lib.hid (HA0.out.upd0 hu)
  have HS1 := Lib.hid (HS0.out.upd0 hu)
  have HSV1 := Lib.hid (HSV0.out.upd0 hu)
  have BC1 := Lib.hid (BC0.out.upd hu (fun h => h))
  have U1 := Lib.hid (U0.out.trans hu (fun _ h => h.elim))
  clear hd hu HA0 HS0 BC0 U0 HSV0
  have y0 : w1.cell? ⟨w.heap.size, 0, none⟩ = some (.slice A n c) := BC1.out.cell 0
  have y1 : w1.cell? ⟨w.heap.size, 1, none⟩ = some (.slice M m d) := BC1.out.cell 1
  have y2 : w1.cell? ⟨w.heap.size, 2, none⟩ = some (.int .i64 st) := BC1.out.cell 2
  have y3 : w1.cell? ⟨w.heap.size, 3, none⟩ = some (.int .i64 sp) := BC1.out.cell 3
  have y4 : w1.cell? ⟨w.heap.size, 4, none⟩ = some (.int .i64 cs) := BC1.out.cell 4
  have y5 : w1.cell? ⟨w.heap.size, 5, none⟩ = some (.int .u64 sa) := BC1.out.cell 5
  have ly := BC1.out.lt
  go_wp2_with fail
  by_cases hf : n ≤ 50 ∧ m ≤ 50
  · obtain ⟨hf1, hf2⟩ := id hf
    by_cases h60 : v ≤ 60
    · have g60 : ¬ (v : Int) > 60 := by omega
      refine (few_to (b := true) (by simp [hf.1, hf.2]) hn1 hm1 _).mono ?_
      rintro e w2 ⟨rfl, hd⟩
      have hu : Upd (fun _ => False) w1 w2 := Upd.of_below hd (fun _ => False)
      have HA2 := Lib.hid (HA1.out.upd0 hu)
      have HS2 := Lib.hid (HS1.out.upd0 hu)
      have HSV2 := Lib.hid (HSV1.out.upd0 hu)
      have BC2 := Lib.hid (BC1.out.upd hu (fun h => h))
      have U2 := Lib.hid (U1.out.trans hu (fun _ h => h.elim))
      clear hd hu HA1 HS1 BC1 U1 HSV1 y0 y1 y2 y3 y4 y5 ly
      have y0 : w2.cell? ⟨w.heap.size, 0, none⟩ = some (.slice A n c) := BC2.out.cell 0
      have y1 : w2.cell? ⟨w.heap.size, 1, none⟩ = some (.slice M m d) := BC2.out.cell 1
      have y2 : w2.cell? ⟨w.heap.size, 2, none⟩ = some (.int .i64 st) := BC2.out.cell 2
      have y3 : w2.cell? ⟨w.heap.size, 3, none⟩ = some (.int .i64 sp) := BC2.out.cell 3
      have y4 : w2.cell? ⟨w.heap.size, 4, none⟩ = some (.int .i64 cs) := BC2.out.cell 4
      have y5 : w2.cell? ⟨w.heap.size, 5, none⟩ = some (.int .u64 sa) := BC2.out.cell 5
      have ly := BC2.out.lt
      have BCc0 : w2.cell? ⟨w.heap.size, 0, none⟩ = some (.slice A n c) := BC2.out.cell 0
      have BCc1 : w2.cell? ⟨w.heap.size, 1, none⟩ = some (.slice M m d) := BC2.out.cell 1
      have BCc2 : w2.cell? ⟨w.heap.size, 2, none⟩ = some (.int .i64 st) := BC2.out.cell 2
      have BCc3 : w2.cell? ⟨w.heap.size, 3, none⟩ = some (.int .i64 sp) := BC2.out.cell 3
      have BCc4 : w2.cell? ⟨w.heap.size, 4, none⟩ = some (.int .i64 cs) := BC2.out.cell 4
      have BCc5 : w2.cell? ⟨w.heap.size, 5, none⟩ = some (.int .u64 sa) := BC2.out.cell 5
      have BCl := BC2.out.lt
      clear y0 y1 y2 y3 y4 y5 ly
      go_wp2_with fail
      clear BCc0 BCc1 BCc2 BCc3 BCc4 BCc5 BCl
      refine (cmade_any A M n c m d st sp cs sa ms HM.out (by omega) _ HS2.out).mono ?_
      rintro e w3 ⟨X, e0, rfl, qQS, hd⟩
      have hu := Upd.of_below hd (fun _ => False)
      have BC3 := Lib.hid (BC2.out.upd hu (fun h => h))
      have HA3 := Lib.hid (HA2.out.upd0 hu)
      have HS3 := Lib.hid (HS2.out.upd0 hu)
      have HSV3 := Lib.hid (HSV2.out.upd0 hu)
      have U3 := Lib.hid (U2.out.trans hu (fun _ h => h.elim))
      clear hd hu BC2 HA2 HS2 HSV2 U2
      have QS3 := Lib.hid qQS
      clear qQS
      have BCc0 : w3.cell? ⟨w.heap.size, 0, none⟩ = some (.slice A n c) := BC3.out.cell 0
      have BCc1 : w3.cell? ⟨w.heap.size, 1, none⟩ = some (.slice M m d) := BC3.out.cell 1
      have BCc2 : w3.cell? ⟨w.heap.size, 2, none⟩ = some (.int .i64 st) := BC3.out.cell 2
      have BCc3 : w3.cell? ⟨w.heap.size, 3, none⟩ = some (.int .i64 sp) := BC3.out.cell 3
      have BCc4 : w3.cell? ⟨w.heap.size, 4, none⟩ = some (.int .i64 cs) := BC3.out.cell 4
      have BCc5 : w3.cell? ⟨w.heap.size, 5, none⟩ = some (.int .u64 sa) := BC3.out.cell 5
      have BCl : w.heap.size < w3.heap.size := BC3.out.lt
      have hfd := fun (X : Option Addr) (e : Nat) (W : World) => fieldB A X n c m e st sp cs sa W
      go_wp2_with fail
      clear BCc0 BCc1 BCc2 BCc3 BCc4 BCc5 BCl
      refine (begin_any A X n c m e0 1 _).mono ?_
      rintro e w4 ⟨rfl, hd⟩
      have hu := Upd.of_below hd (fun _ => False)
      have BC4 := Lib.hid (BC3.out.upd hu (fun h => h))
      have HA4 := Lib.hid (HA3.out.upd0 hu)
      have HS4 := Lib.hid (HS3.out.upd0 hu)
      have HSV4 := Lib.hid (HSV3.out.upd0 hu)
      have QS4 := Lib.hid (QS3.out.upd0 hu)
      have U4 := Lib.hid (U3.out.trans hu (fun _ h => h.elim))
      clear hd hu BC3 HA3 HS3 HSV3 QS3 U3
      have BCc0 : w4.cell? ⟨w.heap.size, 0, none⟩ = some (.slice A n c) := BC4.out.cell 0
      have BCc1 : w4.cell? ⟨w.heap.size, 1, none⟩ = some (.slice M m d) := BC4.out.cell 1
      have BCc2 : w4.cell? ⟨w.heap.size, 2, none⟩ = some (.int .i64 st) := BC4.out.cell 2
      have BCc3 : w4.cell? ⟨w.heap.size, 3, none⟩ = some (.int .i64 sp) := BC4.out.cell 3
      have BCc4 : w4.cell? ⟨w.heap.size, 4, none⟩ = some (.int .i64 cs) := BC4.out.cell 4
      have BCc5 : w4.cell? ⟨w.heap.size, 5, none⟩ = some (.int .u64 sa) := BC4.out.cell 5
      have BCl : w.heap.size < w4.heap.size := BC4.out.lt
      clear hfd
      go_wp2_with fail
      generalize hkz : wrap64 (1 + wrap64 (a.tmod 4)) = kz
      have HK1 : Hid (1 ≤ kz) := Lib.hid (by rw [← hkz]; exact HCO.out.1)
      have HK4 : Hid (kz ≤ 4) := Lib.hid (by rw [← hkz]; exact HCO.out.2)
      clear hkz HCO
      clear BCc0 BCc1 BCc2 BCc3 BCc4 BCc5 BCl
      refine (fail_any A X n c m e0 1 0 0 1 kz 1 (st2 := 3) (sp2 := 1) (cs2 := kz) (sa2 := 1) (ok := true) (by simp [cfail, wrap64]) _).mono ?_
      rintro e w5 ⟨rfl, hd⟩
      have hu := Upd.of_below hd (fun _ => False)
      have BC5 := Lib.hid (BC4.out.upd hu (fun h => h))
      have HA5 := Lib.hid (HA4.out.upd0 hu)
      have HS5 := Lib.hid (HS4.out.upd0 hu)
      have HSV5 := Lib.hid (HSV4.out.upd0 hu)
      have QS5 := Lib.hid (QS4.out.upd0 hu)
      have U5 := Lib.hid (U4.out.trans hu (fun _ h => h.elim))
      clear hd hu BC4 HA4 HS4 HSV4 QS4 U4
      have BCc0 : w5.cell? ⟨w.heap.size, 0, none⟩ = some (.slice A n c) := BC5.out.cell 0
      have BCc1 : w5.cell? ⟨w.heap.size, 1, none⟩ = some (.slice M m d) := BC5.out.cell 1
      have BCc2 : w5.cell? ⟨w.heap.size, 2, none⟩ = some (.int .i64 st) := BC5.out.cell 2
      have BCc3 : w5.cell? ⟨w.heap.size, 3, none⟩ = some (.int .i64 sp) := BC5.out.cell 3
      have BCc4 : w5.cell? ⟨w.heap.size, 4, none⟩ = some (.int .i64 cs) := BC5.out.cell 4
      have BCc5 : w5.cell? ⟨w.heap.size, 5, none⟩ = some (.int .u64 sa) := BC5.out.cell 5
      have BCl : w.heap.size < w5.heap.size := BC5.out.lt
      obtain ⟨sb, hsb⟩ : ∃ b, (decide (vals.length = n) && (psplit vals ms).isSome) = b := ⟨_, rfl⟩
      have HSB := Lib.hid hsb
      clear hsb
      go_wp2_with fail
      clear BCc0 BCc1 BCc2 BCc3 BCc4 BCc5 BCl
      refine (rsplit_b HSB.out HM.out HV.out (by omega) (by omega) (by omega) _ (HS5.out.alloc _) (HSV5.out.alloc _)).mono ?_
      rintro e w6 ⟨SA, sr, sc, rfl, hd⟩
      have hu := Upd.of_below hd (fun _ => False)
      have BC6 := Lib.hid ((BC5.out.alloc _).upd hu (fun h => h))
      have HA6 := Lib.hid ((HA5.out.alloc _).upd0 hu)
      have HS6 := Lib.hid ((HS5.out.alloc _).upd0 hu)
      have HSV6 := Lib.hid ((HSV5.out.alloc _).upd0 hu)
      have QS6 := Lib.hid ((QS5.out.alloc _).upd0 hu)
      have U6 := Lib.hid ((U5.out.alloc _).trans hu (fun _ h => h.elim))
      have QN6 := Lib.hid ((Blk.new w5 #[.slice A n c, .slice X m e0, .int .i64 3, .int .i64 1, .int .i64 kz, .int .u64 1] 38).upd hu (fun h => h))
      clear hd hu BC5 HA5 HS5 HSV5 QS5 U5
      have BCc0 : w6.cell? ⟨w.heap.size, 0, none⟩ = some (.slice A n c) := BC6.out.cell 0
      have BCc1 : w6.cell? ⟨w.heap.size, 1, none⟩ = some (.slice M m d) := BC6.out.cell 1
      have BCc2 : w6.cell? ⟨w.heap.size, 2, none⟩ = some (.int .i64 st) := BC6.out.cell 2
      have BCc3 : w6.cell? ⟨w.heap.size, 3, none⟩ = some (.int .i64 sp) := BC6.out.cell 3
      have BCc4 : w6.cell? ⟨w.heap.size, 4, none⟩ = some (.int .i64 cs) := BC6.out.cell 4
      have BCc5 : w6.cell? ⟨w.heap.size, 5, none⟩ = some (.int .u64 sa) := BC6.out.cell 5
      have BCl : w.heap.size < w6.heap.size := BC6.out.lt
      have QNc0 : w6.cell? ⟨w5.heap.size, 0, none⟩ = some (.slice A n c) := QN6.out.cell 0
      have QNc1 : w6.cell? ⟨w5.heap.size, 1, none⟩ = some (.slice X m e0) := QN6.out.cell 1
      have QNc2 : w6.cell? ⟨w5.heap.size, 2, none⟩ = some (.int .i64 3) := QN6.out.cell 2
      have QNc3 : w6.cell? ⟨w5.heap.size, 3, none⟩ = some (.int .i64 1) := QN6.out.cell 3
      have QNc4 : w6.cell? ⟨w5.heap.size, 4, none⟩ = some (.int .i64 kz) := QN6.out.cell 4
      have QNc5 : w6.cell? ⟨w5.heap.size, 5, none⟩ = some (.int .u64 1) := QN6.out.cell 5
      have QNl : w5.heap.size < w6.heap.size := QN6.out.lt
      go_wp2_with fail
      clear BCc0 BCc1 BCc2 BCc3 BCc4 BCc5 BCl QNc0 QNc1 QNc2 QNc3 QNc4 QNc5 QNl
      refine Code.gen (fun W => Blk W (w.heap.size) 28 #[.slice A n c, .slice M m d, .int .i64 st, .int .i64 sp, .int .i64 cs, .int .u64 sa] ∧ Blk W (w5.heap.size) 38 #[.slice A n c, .slice X m e0, .int .i64 3, .int .i64 1, .int .i64 kz, .int .u64 1] ∧ Sl W A n c (nums xs) ∧ Sl W M m d (prs ms) ∧ Sl W V v q (nums vals) ∧ Sl W X m e0 (prs ms) ∧ Upd (fun _ => False) w W) ⟨BC6.out, QN6.out, HA6.out, HS6.out, HSV6.out, QS6.out, U6.out⟩ ?_
      rintro w7 ⟨qBC, qQN, qHA, qHS, qHSV, qQS, qU⟩
      have BC7 := Lib.hid qBC
      have QN7 := Lib.hid qQN
      have HA7 := Lib.hid qHA
      have HS7 := Lib.hid qHS
      have HSV7 := Lib.hid qHSV
      have QS7 := Lib.hid qQS
      have U7 := Lib.hid qU
      clear qBC qQN qHA qHS qHSV qQS qU BC6 QN6 HA6 HS6 HSV6 QS6 U6
      have BCc0 : w7.cell? ⟨w.heap.size, 0, none⟩ = some (.slice A n c) := BC7.out.cell 0
      have BCc1 : w7.cell? ⟨w.heap.size, 1, none⟩ = some (.slice M m d) := BC7.out.cell 1
      have BCc2 : w7.cell? ⟨w.heap.size, 2, none⟩ = some (.int .i64 st) := BC7.out.cell 2
      have BCc3 : w7.cell? ⟨w.heap.size, 3, none⟩ = some (.int .i64 sp) := BC7.out.cell 3
      have BCc4 : w7.cell? ⟨w.heap.size, 4, none⟩ = some (.int .i64 cs) := BC7.out.cell 4
      have BCc5 : w7.cell? ⟨w.heap.size, 5, none⟩ = some (.int .u64 sa) := BC7.out.cell 5
      have BCl : w.heap.size < w7.heap.size := BC7.out.lt
      have QNc0 : w7.cell? ⟨w5.heap.size, 0, none⟩ = some (.slice A n c) := QN7.out.cell 0
      have QNc1 : w7.cell? ⟨w5.heap.size, 1, none⟩ = some (.slice X m e0) := QN7.out.cell 1
      have QNc2 : w7.cell? ⟨w5.heap.size, 2, none⟩ = some (.int .i64 3) := QN7.out.cell 2
      have QNc3 : w7.cell? ⟨w5.heap.size, 3, none⟩ = some (.int .i64 1) := QN7.out.cell 3
      have QNc4 : w7.cell? ⟨w5.heap.size, 4, none⟩ = some (.int .i64 kz) := QN7.out.cell 4
      have QNc5 : w7.cell? ⟨w5.heap.size, 5, none⟩ = some (.int .u64 1) := QN7.out.cell 5
      have QNl : w5.heap.size < w7.heap.size := QN7.out.lt
      clear BCc0 BCc1 BCc2 BCc3 BCc4 BCc5 BCl QNc0 QNc1 QNc2 QNc3 QNc4 QNc5 QNl
      have BC := Lib.hid BC7.out
      have QN := Lib.hid QN7.out
      have HS := Lib.hid HS7.out
      have QS := Lib.hid QS7.out
      have HSV := Lib.hid HSV7.out
      have U := Lib.hid U7.out
      clear BC7 QN7 HS7 QS7 HSV7 U7 HA7
      go_loopw [12] (fun kv wr => (kv = .int .i64 1 ∨ kv = .int .i64 2 ∨ kv = .int .i64 3 ∨ kv = .int .i64 4 ∨ kv = .int .i64 5) ∧ Hid (Upd (fun _ => False) w7 wr)) (fun kv _ => 5 - (intOf kv).toNat)
      case atStart => exact ⟨.inl rfl, Lib.hid (Upd.refl _ _)⟩
      case round =>
        obtain ⟨rfl | rfl | rfl | rfl | rfl, hu⟩ := hrel
        · have kind1_ := True.intro
          have QNw := Lib.hid (QN.out.upd hu.out (fun h => h))
          have QSw := Lib.hid (QS.out.upd0 hu.out)
          have HSVw := Lib.hid (HSV.out.upd0 hu.out)
          have QNc0 : wr.cell? ⟨w5.heap.size, 0, none⟩ = some (.slice A n c) := QNw.out.cell 0
          have QNc1 : wr.cell? ⟨w5.heap.size, 1, none⟩ = some (.slice X m e0) := QNw.out.cell 1
          have QNc2 : wr.cell? ⟨w5.heap.size, 2, none⟩ = some (.int .i64 3) := QNw.out.cell 2
          have QNc3 : wr.cell? ⟨w5.heap.size, 3, none⟩ = some (.int .i64 1) := QNw.out.cell 3
          have QNc4 : wr.cell? ⟨w5.heap.size, 4, none⟩ = some (.int .i64 kz) := QNw.out.cell 4
          have QNc5 : wr.cell? ⟨w5.heap.size, 5, none⟩ = some (.int .u64 1) := QNw.out.cell 5
          have QNl : w5.heap.size < wr.heap.size := QNw.out.lt
          go_wp2_with fail
          obtain ⟨l, hl⟩ : ∃ l, couts n ms kz 1 vals 5 = l := ⟨_, rfl⟩
          obtain ⟨r, hr⟩ : ∃ r, l.length = r := ⟨_, rfl⟩
          refine (outs_to (l := l) hl hr HM.out HV.out (by omega) (by omega) _ QSw.out HSVw.out).mono ?_
          rintro e wO ⟨L, lc, rfl, hls, hd⟩
          have HLS := Lib.hid hls
          have HR := Lib.hid hr
          have HLL := Lib.hid hl
          have U7 := Lib.hid (hu.out.trans (Upd.of_below hd (fun _ => False)) (fun _ h => h.elim))
          clear hls hd hr hl QNw QSw HSVw QNc0 QNc1 QNc2 QNc3 QNc4 QNc5 QNl
          have BC7 := Lib.hid (BC.out.upd U7.out (fun h => h))
          have BCc0 : wO.cell? ⟨w.heap.size, 0, none⟩ = some (.slice A n c) := BC7.out.cell 0
          have BCc1 : wO.cell? ⟨w.heap.size, 1, none⟩ = some (.slice M m d) := BC7.out.cell 1
          have BCc2 : wO.cell? ⟨w.heap.size, 2, none⟩ = some (.int .i64 st) := BC7.out.cell 2
          have BCc3 : wO.cell? ⟨w.heap.size, 3, none⟩ = some (.int .i64 sp) := BC7.out.cell 3
          have BCc4 : wO.cell? ⟨w.heap.size, 4, none⟩ = some (.int .i64 cs) := BC7.out.cell 4
          have BCc5 : wO.cell? ⟨w.heap.size, 5, none⟩ = some (.int .u64 sa) := BC7.out.cell 5
          have BCl : w.heap.size < wO.heap.size := BC7.out.lt
          have HRM : Hid (r ≤ m) := Lib.hid (by have := couts_len n ms kz 1 vals 5; rw [HLL.out, HR.out, HM.out] at this; exact this)
          by_cases hsb : sb = true
          · subst hsb
            obtain rfl : m = r := by rw [← HR.out, ← HLL.out, ← HM.out]; exact (couts_13 (by decide) HSB.out).symm
            go_wp2_with fail
            clear BCc0 BCc1 BCc2 BCc3 BCc4 BCc5 BCl
            go_loopw [14] (fun iv wr2 => ∃ j : Nat, j ≤ m ∧ iv = .int .i64 j ∧ Hid (Upd (fun _ => False) wO wr2)) (fun iv _ => m - (intOf iv).toNat)
            case atStart => exact ⟨0, Nat.zero_le _, rfl, Lib.hid (Upd.refl _ _)⟩
            case round =>
              obtain ⟨j, hj, rfl, hu2⟩ := hrel
              by_cases hlt : j < m
              · obtain ⟨o, ho⟩ : ∃ o, l[j]? = some o := ⟨l[j]'(by rw [HR.out]; exact hlt), List.getElem?_eq_getElem _⟩
                obtain ⟨mm, cz, vl, hmm, ho2, hmay⟩ := couts_at (n := n) (ms := ms) (kind := 1) (now := 5) (vals := vals) HK1.out HK4.out (by rw [HLL.out]; exact ho)
                subst ho2
                obtain ⟨b, of, e, hb, hc⟩ := (HLS.out.upd0 hu2.out).row o5_len (by decide) ho
                have d0 := hc 0 _ rfl
                have d1 := hc 1 _ rfl
                have d2 := hc 2 _ rfl
                have d3 := hc 3 _ rfl
                have d4 := hc 4 _ rfl
                simp only [Nat.add_zero, ← Nat.add_assoc] at d0 d1 d2 d3 d4
                subst e
                obtain ⟨mb, mo, e, hmb, m0, m1⟩ := (HS.out.upd0 (U7.out.trans hu2.out (fun _ h => h.elim))).pr hmm
                subst e
                have i0 : (0 : Int) ≤ (j : Int) := Int.natCast_nonneg _
                have i1 : (j : Int) < (m : Int) := by omega
                skip
                have HMAY := Lib.hid hmay
                have HU2 := Lib.hid (hu2.out)
                have BC8 := Lib.hid (BC7.out.upd hu2.out (fun h => h))
                have BDc1 : wr.cell? ⟨w.heap.size, 1, none⟩ = some (.slice (some ⟨mb, mo, none⟩) m d) := BC8.out.cell 1
                have BDl : w.heap.size < wr.heap.size := BC8.out.lt
                clear ho hmm hmay hc m1 hu2
                go_wp2_with fail
                go_region_held3 (fun w' => w'.cell? ⟨b, of + j * 5, none⟩ = some (.int .i64 mm.1) ∧ w'.cell? ⟨b, of + j * 5 + 1, none⟩ = some (.int .i64 1) ∧ w'.cell? ⟨b, of + j * 5 + 2, none⟩ = some (.int .i64 cz) ∧ w'.cell? ⟨b, of + j * 5 + 3, none⟩ = some (.int .i64 vl) ∧ w'.cell? ⟨b, of + j * 5 + 4, none⟩ = some (.int .u64 5) ∧ w'.cell? ⟨mb, mo + j * 2, none⟩ = some (.int .i64 mm.1) ∧ w'.cell? ⟨w.heap.size, 1, none⟩ = some (.slice (some ⟨mb, mo, none⟩) m d)) (go_keep) ((go_at_call 25; refine (may_to HMAY.out _).mono ?_; rintro e w9 ⟨rfl, hd⟩; have hu9 := Upd.of_below hd (fun _ => False); have U9 := Lib.hid (((Upd.refl (fun _ => False) wr).drew).trans hu9 (fun _ h => h.elim)); have x0 : w9.cell? ⟨b, of + j * 5, none⟩ = some (.int .i64 mm.1) := (U9.out.cellq (p := ⟨b, of + j * 5, none⟩) hb (fun h => h)).trans d0; have x1 : w9.cell? ⟨b, of + j * 5 + 1, none⟩ = some (.int .i64 1) := (U9.out.cellq (p := ⟨b, of + j * 5 + 1, none⟩) hb (fun h => h)).trans d1; have x2 : w9.cell? ⟨b, of + j * 5 + 2, none⟩ = some (.int .i64 cz) := (U9.out.cellq (p := ⟨b, of + j * 5 + 2, none⟩) hb (fun h => h)).trans d2; have x3 : w9.cell? ⟨b, of + j * 5 + 3, none⟩ = some (.int .i64 vl) := (U9.out.cellq (p := ⟨b, of + j * 5 + 3, none⟩) hb (fun h => h)).trans d3; have x4 : w9.cell? ⟨b, of + j * 5 + 4, none⟩ = some (.int .u64 5) := (U9.out.cellq (p := ⟨b, of + j * 5 + 4, none⟩) hb (fun h => h)).trans d4; have x5 : w9.cell? ⟨mb, mo + j * 2, none⟩ = some (.int .i64 mm.1) := (U9.out.cellq (p := ⟨mb, mo + j * 2, none⟩) hmb (fun h => h)).trans m0; have x6 : w9.cell? ⟨w.heap.size, 1, none⟩ = some (.slice (some ⟨mb, mo, none⟩) m d) := (U9.out.cellq (p := ⟨w.heap.size, 1, none⟩) BDl (fun h => h)).trans BDc1; clear hd hu9))
                go_wp2
                go_roundw
                case rel => exact ⟨j + 1, by omega, by go_num, Lib.hid (HU2.out.trans U9.out (fun _ h => h.elim))⟩
                case measure => simp [intOf]; omega
              · skip
                go_wp2
                go_roundw
                case rel => exact ⟨.inr (.inl rfl), Lib.hid (U7.out.trans hu2.out (fun _ h => h.elim))⟩
                case measure => simp [intOf]
          · have hsf : sb = false := by simpa using hsb
            subst hsf
            clear hsb
            go_wp2_with fail
            clear BCc0 BCc1 BCc2 BCc3 BCc4 BCc5 BCl
            go_loopw [14] (fun iv wr2 => ∃ j : Nat, j ≤ r ∧ iv = .int .i64 j ∧ Hid (Upd (fun _ => False) wO wr2)) (fun iv _ => r - (intOf iv).toNat)
            case atStart => exact ⟨0, Nat.zero_le _, rfl, Lib.hid (Upd.refl _ _)⟩
            case round =>
              obtain ⟨j, hj, rfl, hu2⟩ := hrel
              by_cases hlt : j < r
              · obtain ⟨o, ho⟩ : ∃ o, l[j]? = some o := ⟨l[j]'(by rw [HR.out]; exact hlt), List.getElem?_eq_getElem _⟩
                obtain ⟨mm, cz, vl, hmm, ho2, hmay⟩ := couts_at (n := n) (ms := ms) (kind := 1) (now := 5) (vals := vals) HK1.out HK4.out (by rw [HLL.out]; exact ho)
                subst ho2
                obtain ⟨b, of, e, hb, hc⟩ := (HLS.out.upd0 hu2.out).row o5_len (by decide) ho
                have d0 := hc 0 _ rfl
                have d1 := hc 1 _ rfl
                have d2 := hc 2 _ rfl
                have d3 := hc 3 _ rfl
                have d4 := hc 4 _ rfl
                simp only [Nat.add_zero, ← Nat.add_assoc] at d0 d1 d2 d3 d4
                subst e
                obtain ⟨mb, mo, e, hmb, m0, m1⟩ := (HS.out.upd0 (U7.out.trans hu2.out (fun _ h => h.elim))).pr hmm
                subst e
                have i0 : (0 : Int) ≤ (j : Int) := Int.natCast_nonneg _
                have i1 : (j : Int) < (r : Int) := by omega
                have i2 : (j : Int) < (m : Int) := by have := HRM.out; omega
                have HMAY := Lib.hid hmay
                have HU2 := Lib.hid (hu2.out)
                have BC8 := Lib.hid (BC7.out.upd hu2.out (fun h => h))
                have BDc1 : wr.cell? ⟨w.heap.size, 1, none⟩ = some (.slice (some ⟨mb, mo, none⟩) m d) := BC8.out.cell 1
                have BDl : w.heap.size < wr.heap.size := BC8.out.lt
                clear ho hmm hmay hc m1 hu2
                go_wp2_with fail
                go_region_held3 (fun w' => w'.cell? ⟨b, of + j * 5, none⟩ = some (.int .i64 mm.1) ∧ w'.cell? ⟨b, of + j * 5 + 1, none⟩ = some (.int .i64 1) ∧ w'.cell? ⟨b, of + j * 5 + 2, none⟩ = some (.int .i64 cz) ∧ w'.cell? ⟨b, of + j * 5 + 3, none⟩ = some (.int .i64 vl) ∧ w'.cell? ⟨b, of + j * 5 + 4, none⟩ = some (.int .u64 5) ∧ w'.cell? ⟨mb, mo + j * 2, none⟩ = some (.int .i64 mm.1) ∧ w'.cell? ⟨w.heap.size, 1, none⟩ = some (.slice (some ⟨mb, mo, none⟩) m d)) (go_keep) ((go_at_call 25; refine (may_to HMAY.out _).mono ?_; rintro e w9 ⟨rfl, hd⟩; have hu9 := Upd.of_below hd (fun _ => False); have U9 := Lib.hid (((Upd.refl (fun _ => False) wr).drew).trans hu9 (fun _ h => h.elim)); have x0 : w9.cell? ⟨b, of + j * 5, none⟩ = some (.int .i64 mm.1) := (U9.out.cellq (p := ⟨b, of + j * 5, none⟩) hb (fun h => h)).trans d0; have x1 : w9.cell? ⟨b, of + j * 5 + 1, none⟩ = some (.int .i64 1) := (U9.out.cellq (p := ⟨b, of + j * 5 + 1, none⟩) hb (fun h => h)).trans d1; have x2 : w9.cell? ⟨b, of + j * 5 + 2, none⟩ = some (.int .i64 cz) := (U9.out.cellq (p := ⟨b, of + j * 5 + 2, none⟩) hb (fun h => h)).trans d2; have x3 : w9.cell? ⟨b, of + j * 5 + 3, none⟩ = some (.int .i64 vl) := (U9.out.cellq (p := ⟨b, of + j * 5 + 3, none⟩) hb (fun h => h)).trans d3; have x4 : w9.cell? ⟨b, of + j * 5 + 4, none⟩ = some (.int .u64 5) := (U9.out.cellq (p := ⟨b, of + j * 5 + 4, none⟩) hb (fun h => h)).trans d4; have x5 : w9.cell? ⟨mb, mo + j * 2, none⟩ = some (.int .i64 mm.1) := (U9.out.cellq (p := ⟨mb, mo + j * 2, none⟩) hmb (fun h => h)).trans m0; have x6 : w9.cell? ⟨w.heap.size, 1, none⟩ = some (.slice (some ⟨mb, mo, none⟩) m d) := (U9.out.cellq (p := ⟨w.heap.size, 1, none⟩) BDl (fun h => h)).trans BDc1; clear hd hu9))
                go_wp2
                go_roundw
                case rel => exact ⟨j + 1, by omega, by go_num, Lib.hid (HU2.out.trans U9.out (fun _ h => h.elim))⟩
                case measure => simp [intOf]; omega
              · obtain rfl : r = j := by omega
                go_wp2
                go_roundw
                case rel => exact ⟨.inr (.inl rfl), Lib.hid (U7.out.trans hu2.out (fun _ h => h.elim))⟩
                case measure => simp [intOf]
        · have kind2_ := True.intro
          have QNw := Lib.hid (QN.out.upd hu.out (fun h => h))
          have QSw := Lib.hid (QS.out.upd0 hu.out)
          have HSVw := Lib.hid (HSV.out.upd0 hu.out)
          have QNc0 : wr.cell? ⟨w5.heap.size, 0, none⟩ = some (.slice A n c) := QNw.out.cell 0
          have QNc1 : wr.cell? ⟨w5.heap.size, 1, none⟩ = some (.slice X m e0) := QNw.out.cell 1
          have QNc2 : wr.cell? ⟨w5.heap.size, 2, none⟩ = some (.int .i64 3) := QNw.out.cell 2
          have QNc3 : wr.cell? ⟨w5.heap.size, 3, none⟩ = some (.int .i64 1) := QNw.out.cell 3
          have QNc4 : wr.cell? ⟨w5.heap.size, 4, none⟩ = some (.int .i64 kz) := QNw.out.cell 4
          have QNc5 : wr.cell? ⟨w5.heap.size, 5, none⟩ = some (.int .u64 1) := QNw.out.cell 5
          have QNl : w5.heap.size < wr.heap.size := QNw.out.lt
          go_wp2_with fail
          obtain ⟨l, hl⟩ : ∃ l, couts n ms kz 2 vals 5 = l := ⟨_, rfl⟩
          obtain ⟨r, hr⟩ : ∃ r, l.length = r := ⟨_, rfl⟩
          refine (outs_to (l := l) hl hr HM.out HV.out (by omega) (by omega) _ QSw.out HSVw.out).mono ?_
          rintro e wO ⟨L, lc, rfl, hls, hd⟩
          have HLS := Lib.hid hls
          have HR := Lib.hid hr
          have HLL := Lib.hid hl
          have U7 := Lib.hid (hu.out.trans (Upd.of_below hd (fun _ => False)) (fun _ h => h.elim))
          clear hls hd hr hl QNw QSw HSVw QNc0 QNc1 QNc2 QNc3 QNc4 QNc5 QNl
          have BC7 := Lib.hid (BC.out.upd U7.out (fun h => h))
          have BCc0 : wO.cell? ⟨w.heap.size, 0, none⟩ = some (.slice A n c) := BC7.out.cell 0
          have BCc1 : wO.cell? ⟨w.heap.size, 1, none⟩ = some (.slice M m d) := BC7.out.cell 1
          have BCc2 : wO.cell? ⟨w.heap.size, 2, none⟩ = some (.int .i64 st) := BC7.out.cell 2
          have BCc3 : wO.cell? ⟨w.heap.size, 3, none⟩ = some (.int .i64 sp) := BC7.out.cell 3
          have BCc4 : wO.cell? ⟨w.heap.size, 4, none⟩ = some (.int .i64 cs) := BC7.out.cell 4
          have BCc5 : wO.cell? ⟨w.heap.size, 5, none⟩ = some (.int .u64 sa) := BC7.out.cell 5
          have BCl : w.heap.size < wO.heap.size := BC7.out.lt
          obtain rfl : r = 0 := by rw [← HR.out, ← HLL.out]; exact couts_2 _ _ _ _ _
          go_wp2_with fail
          clear BCc0 BCc1 BCc2 BCc3 BCc4 BCc5 BCl
          go_loopw [14] (fun iv wr2 => iv = .int .i64 0 ∧ Hid (Upd (fun _ => False) wO wr2)) (fun iv _ => 0)
          case atStart => exact ⟨rfl, Lib.hid (Upd.refl _ _)⟩
          case round =>
            obtain ⟨rfl, hu2⟩ := hrel
            go_wp2
            go_roundw
            case rel => exact ⟨.inr (.inr (.inl rfl)), Lib.hid (U7.out.trans hu2.out (fun _ h => h.elim))⟩
            case measure => simp [intOf]
        · have kind3_ := True.intro
          have QNw := Lib.hid (QN.out.upd hu.out (fun h => h))
          have QSw := Lib.hid (QS.out.upd0 hu.out)
          have HSVw := Lib.hid (HSV.out.upd0 hu.out)
          have QNc0 : wr.cell? ⟨w5.heap.size, 0, none⟩ = some (.slice A n c) := QNw.out.cell 0
          have QNc1 : wr.cell? ⟨w5.heap.size, 1, none⟩ = some (.slice X m e0) := QNw.out.cell 1
          have QNc2 : wr.cell? ⟨w5.heap.size, 2, none⟩ = some (.int .i64 3) := QNw.out.cell 2
          have QNc3 : wr.cell? ⟨w5.heap.size, 3, none⟩ = some (.int .i64 1) := QNw.out.cell 3
          have QNc4 : wr.cell? ⟨w5.heap.size, 4, none⟩ = some (.int .i64 kz) := QNw.out.cell 4
          have QNc5 : wr.cell? ⟨w5.heap.size, 5, none⟩ = some (.int .u64 1) := QNw.out.cell 5
          have QNl : w5.heap.size < wr.heap.size := QNw.out.lt
          go_wp2_with fail
          obtain ⟨l, hl⟩ : ∃ l, couts n ms kz 3 vals 5 = l := ⟨_, rfl⟩
          obtain ⟨r, hr⟩ : ∃ r, l.length = r := ⟨_, rfl⟩
          refine (outs_to (l := l) hl hr HM.out HV.out (by omega) (by omega) _ QSw.out HSVw.out).mono ?_
          rintro e wO ⟨L, lc, rfl, hls, hd⟩
          have HLS := Lib.hid hls
          have HR := Lib.hid hr
          have HLL := Lib.hid hl
          have U7 := Lib.hid (hu.out.trans (Upd.of_below hd (fun _ => False)) (fun _ h => h.elim))
          clear hls hd hr hl QNw QSw HSVw QNc0 QNc1 QNc2 QNc3 QNc4 QNc5 QNl
          have BC7 := Lib.hid (BC.out.upd U7.out (fun h => h))
          have BCc0 : wO.cell? ⟨w.heap.size, 0, none⟩ = some (.slice A n c) := BC7.out.cell 0
          have BCc1 : wO.cell? ⟨w.heap.size, 1, none⟩ = some (.slice M m d) := BC7.out.cell 1
          have BCc2 : wO.cell? ⟨w.heap.size, 2, none⟩ = some (.int .i64 st) := BC7.out.cell 2
          have BCc3 : wO.cell? ⟨w.heap.size, 3, none⟩ = some (.int .i64 sp) := BC7.out.cell 3
          have BCc4 : wO.cell? ⟨w.heap.size, 4, none⟩ = some (.int .i64 cs) := BC7.out.cell 4
          have BCc5 : wO.cell? ⟨w.heap.size, 5, none⟩ = some (.int .u64 sa) := BC7.out.cell 5
          have BCl : w.heap.size < wO.heap.size := BC7.out.lt
          have HRM : Hid (r ≤ m) := Lib.hid (by have := couts_len n ms kz 3 vals 5; rw [HLL.out, HR.out, HM.out] at this; exact this)
          by_cases hsb : sb = true
          · subst hsb
            obtain rfl : m = r := by rw [← HR.out, ← HLL.out, ← HM.out]; exact (couts_13 (by decide) HSB.out).symm
            go_wp2_with fail
            clear BCc0 BCc1 BCc2 BCc3 BCc4 BCc5 BCl
            go_loopw [14] (fun iv wr2 => ∃ j : Nat, j ≤ m ∧ iv = .int .i64 j ∧ Hid (Upd (fun _ => False) wO wr2)) (fun iv _ => m - (intOf iv).toNat)
            case atStart => exact ⟨0, Nat.zero_le _, rfl, Lib.hid (Upd.refl _ _)⟩
            case round =>
              obtain ⟨j, hj, rfl, hu2⟩ := hrel
              by_cases hlt : j < m
              · obtain ⟨o, ho⟩ : ∃ o, l[j]? = some o := ⟨l[j]'(by rw [HR.out]; exact hlt), List.getElem?_eq_getElem _⟩
                obtain ⟨mm, cz, vl, hmm, ho2, hmay⟩ := couts_at (n := n) (ms := ms) (kind := 3) (now := 5) (vals := vals) HK1.out HK4.out (by rw [HLL.out]; exact ho)
                subst ho2
                obtain ⟨b, of, e, hb, hc⟩ := (HLS.out.upd0 hu2.out).row o5_len (by decide) ho
                have d0 := hc 0 _ rfl
                have d1 := hc 1 _ rfl
                have d2 := hc 2 _ rfl
                have d3 := hc 3 _ rfl
                have d4 := hc 4 _ rfl
                simp only [Nat.add_zero, ← Nat.add_assoc] at d0 d1 d2 d3 d4
                subst e
                obtain ⟨mb, mo, e, hmb, m0, m1⟩ := (HS.out.upd0 (U7.out.trans hu2.out (fun _ h => h.elim))).pr hmm
                subst e
                have i0 : (0 : Int) ≤ (j : Int) := Int.natCast_nonneg _
                have i1 : (j : Int) < (m : Int) := by omega
                skip
                have HMAY := Lib.hid hmay
                have HU2 := Lib.hid (hu2.out)
                have BC8 := Lib.hid (BC7.out.upd hu2.out (fun h => h))
                have BDc1 : wr.cell? ⟨w.heap.size, 1, none⟩ = some (.slice (some ⟨mb, mo, none⟩) m d) := BC8.out.cell 1
                have BDl : w.heap.size < wr.heap.size := BC8.out.lt
                clear ho hmm hmay hc m1 hu2
                go_wp2_with fail
                go_region_held3 (fun w' => w'.cell? ⟨b, of + j * 5, none⟩ = some (.int .i64 mm.1) ∧ w'.cell? ⟨b, of + j * 5 + 1, none⟩ = some (.int .i64 3) ∧ w'.cell? ⟨b, of + j * 5 + 2, none⟩ = some (.int .i64 cz) ∧ w'.cell? ⟨b, of + j * 5 + 3, none⟩ = some (.int .i64 vl) ∧ w'.cell? ⟨b, of + j * 5 + 4, none⟩ = some (.int .u64 5) ∧ w'.cell? ⟨mb, mo + j * 2, none⟩ = some (.int .i64 mm.1) ∧ w'.cell? ⟨w.heap.size, 1, none⟩ = some (.slice (some ⟨mb, mo, none⟩) m d)) (go_keep) ((go_at_call 25; refine (may_to HMAY.out _).mono ?_; rintro e w9 ⟨rfl, hd⟩; have hu9 := Upd.of_below hd (fun _ => False); have U9 := Lib.hid (((Upd.refl (fun _ => False) wr).drew).trans hu9 (fun _ h => h.elim)); have x0 : w9.cell? ⟨b, of + j * 5, none⟩ = some (.int .i64 mm.1) := (U9.out.cellq (p := ⟨b, of + j * 5, none⟩) hb (fun h => h)).trans d0; have x1 : w9.cell? ⟨b, of + j * 5 + 1, none⟩ = some (.int .i64 3) := (U9.out.cellq (p := ⟨b, of + j * 5 + 1, none⟩) hb (fun h => h)).trans d1; have x2 : w9.cell? ⟨b, of + j * 5 + 2, none⟩ = some (.int .i64 cz) := (U9.out.cellq (p := ⟨b, of + j * 5 + 2, none⟩) hb (fun h => h)).trans d2; have x3 : w9.cell? ⟨b, of + j * 5 + 3, none⟩ = some (.int .i64 vl) := (U9.out.cellq (p := ⟨b, of + j * 5 + 3, none⟩) hb (fun h => h)).trans d3; have x4 : w9.cell? ⟨b, of + j * 5 + 4, none⟩ = some (.int .u64 5) := (U9.out.cellq (p := ⟨b, of + j * 5 + 4, none⟩) hb (fun h => h)).trans d4; have x5 : w9.cell? ⟨mb, mo + j * 2, none⟩ = some (.int .i64 mm.1) := (U9.out.cellq (p := ⟨mb, mo + j * 2, none⟩) hmb (fun h => h)).trans m0; have x6 : w9.cell? ⟨w.heap.size, 1, none⟩ = some (.slice (some ⟨mb, mo, none⟩) m d) := (U9.out.cellq (p := ⟨w.heap.size, 1, none⟩) BDl (fun h => h)).trans BDc1; clear hd hu9))
                go_wp2
                go_roundw
                case rel => exact ⟨j + 1, by omega, by go_num, Lib.hid (HU2.out.trans U9.out (fun _ h => h.elim))⟩
                case measure => simp [intOf]; omega
              · skip
                go_wp2
                go_roundw
                case rel => exact ⟨.inr (.inr (.inr (.inl rfl))), Lib.hid (U7.out.trans hu2.out (fun _ h => h.elim))⟩
                case measure => simp [intOf]
          · have hsf : sb = false := by simpa using hsb
            subst hsf
            clear hsb
            go_wp2_with fail
            clear BCc0 BCc1 BCc2 BCc3 BCc4 BCc5 BCl
            go_loopw [14] (fun iv wr2 => ∃ j : Nat, j ≤ r ∧ iv = .int .i64 j ∧ Hid (Upd (fun _ => False) wO wr2)) (fun iv _ => r - (intOf iv).toNat)
            case atStart => exact ⟨0, Nat.zero_le _, rfl, Lib.hid (Upd.refl _ _)⟩
            case round =>
              obtain ⟨j, hj, rfl, hu2⟩ := hrel
              by_cases hlt : j < r
              · obtain ⟨o, ho⟩ : ∃ o, l[j]? = some o := ⟨l[j]'(by rw [HR.out]; exact hlt), List.getElem?_eq_getElem _⟩
                obtain ⟨mm, cz, vl, hmm, ho2, hmay⟩ := couts_at (n := n) (ms := ms) (kind := 3) (now := 5) (vals := vals) HK1.out HK4.out (by rw [HLL.out]; exact ho)
                subst ho2
                obtain ⟨b, of, e, hb, hc⟩ := (HLS.out.upd0 hu2.out).row o5_len (by decide) ho
                have d0 := hc 0 _ rfl
                have d1 := hc 1 _ rfl
                have d2 := hc 2 _ rfl
                have d3 := hc 3 _ rfl
                have d4 := hc 4 _ rfl
                simp only [Nat.add_zero, ← Nat.add_assoc] at d0 d1 d2 d3 d4
                subst e
                obtain ⟨mb, mo, e, hmb, m0, m1⟩ := (HS.out.upd0 (U7.out.trans hu2.out (fun _ h => h.elim))).pr hmm
                subst e
                have i0 : (0 : Int) ≤ (j : Int) := Int.natCast_nonneg _
                have i1 : (j : Int) < (r : Int) := by omega
                have i2 : (j : Int) < (m : Int) := by have := HRM.out; omega
                have HMAY := Lib.hid hmay
                have HU2 := Lib.hid (hu2.out)
                have BC8 := Lib.hid (BC7.out.upd hu2.out (fun h => h))
                have BDc1 : wr.cell? ⟨w.heap.size, 1, none⟩ = some (.slice (some ⟨mb, mo, none⟩) m d) := BC8.out.cell 1
                have BDl : w.heap.size < wr.heap.size := BC8.out.lt
                clear ho hmm hmay hc m1 hu2
                go_wp2_with fail
                go_region_held3 (fun w' => w'.cell? ⟨b, of + j * 5, none⟩ = some (.int .i64 mm.1) ∧ w'.cell? ⟨b, of + j * 5 + 1, none⟩ = some (.int .i64 3) ∧ w'.cell? ⟨b, of + j * 5 + 2, none⟩ = some (.int .i64 cz) ∧ w'.cell? ⟨b, of + j * 5 + 3, none⟩ = some (.int .i64 vl) ∧ w'.cell? ⟨b, of + j * 5 + 4, none⟩ = some (.int .u64 5) ∧ w'.cell? ⟨mb, mo + j * 2, none⟩ = some (.int .i64 mm.1) ∧ w'.cell? ⟨w.heap.size, 1, none⟩ = some (.slice (some ⟨mb, mo, none⟩) m d)) (go_keep) ((go_at_call 25; refine (may_to HMAY.out _).mono ?_; rintro e w9 ⟨rfl, hd⟩; have hu9 := Upd.of_below hd (fun _ => False); have U9 := Lib.hid (((Upd.refl (fun _ => False) wr).drew).trans hu9 (fun _ h => h.elim)); have x0 : w9.cell? ⟨b, of + j * 5, none⟩ = some (.int .i64 mm.1) := (U9.out.cellq (p := ⟨b, of + j * 5, none⟩) hb (fun h => h)).trans d0; have x1 : w9.cell? ⟨b, of + j * 5 + 1, none⟩ = some (.int .i64 3) := (U9.out.cellq (p := ⟨b, of + j * 5 + 1, none⟩) hb (fun h => h)).trans d1; have x2 : w9.cell? ⟨b, of + j * 5 + 2, none⟩ = some (.int .i64 cz) := (U9.out.cellq (p := ⟨b, of + j * 5 + 2, none⟩) hb (fun h => h)).trans d2; have x3 : w9.cell? ⟨b, of + j * 5 + 3, none⟩ = some (.int .i64 vl) := (U9.out.cellq (p := ⟨b, of + j * 5 + 3, none⟩) hb (fun h => h)).trans d3; have x4 : w9.cell? ⟨b, of + j * 5 + 4, none⟩ = some (.int .u64 5) := (U9.out.cellq (p := ⟨b, of + j * 5 + 4, none⟩) hb (fun h => h)).trans d4; have x5 : w9.cell? ⟨mb, mo + j * 2, none⟩ = some (.int .i64 mm.1) := (U9.out.cellq (p := ⟨mb, mo + j * 2, none⟩) hmb (fun h => h)).trans m0; have x6 : w9.cell? ⟨w.heap.size, 1, none⟩ = some (.slice (some ⟨mb, mo, none⟩) m d) := (U9.out.cellq (p := ⟨w.heap.size, 1, none⟩) BDl (fun h => h)).trans BDc1; clear hd hu9))
                go_wp2
                go_roundw
                case rel => exact ⟨j + 1, by omega, by go_num, Lib.hid (HU2.out.trans U9.out (fun _ h => h.elim))⟩
                case measure => simp [intOf]; omega
              · obtain rfl : r = j := by omega
                go_wp2
                go_roundw
                case rel => exact ⟨.inr (.inr (.inr (.inl rfl))), Lib.hid (U7.out.trans hu2.out (fun _ h => h.elim))⟩
                case measure => simp [intOf]
        · have kind4_ := True.intro
          have QNw := Lib.hid (QN.out.upd hu.out (fun h => h))
          have QSw := Lib.hid (QS.out.upd0 hu.out)
          have HSVw := Lib.hid (HSV.out.upd0 hu.out)
          have QNc0 : wr.cell? ⟨w5.heap.size, 0, none⟩ = some (.slice A n c) := QNw.out.cell 0
          have QNc1 : wr.cell? ⟨w5.heap.size, 1, none⟩ = some (.slice X m e0) := QNw.out.cell 1
          have QNc2 : wr.cell? ⟨w5.heap.size, 2, none⟩ = some (.int .i64 3) := QNw.out.cell 2
          have QNc3 : wr.cell? ⟨w5.heap.size, 3, none⟩ = some (.int .i64 1) := QNw.out.cell 3
          have QNc4 : wr.cell? ⟨w5.heap.size, 4, none⟩ = some (.int .i64 kz) := QNw.out.cell 4
          have QNc5 : wr.cell? ⟨w5.heap.size, 5, none⟩ = some (.int .u64 1) := QNw.out.cell 5
          have QNl : w5.heap.size < wr.heap.size := QNw.out.lt
          go_wp2_with fail
          obtain ⟨l, hl⟩ : ∃ l, couts n ms kz 4 vals 5 = l := ⟨_, rfl⟩
          obtain ⟨r, hr⟩ : ∃ r, l.length = r := ⟨_, rfl⟩
          refine (outs_to (l := l) hl hr HM.out HV.out (by omega) (by omega) _ QSw.out HSVw.out).mono ?_
          rintro e wO ⟨L, lc, rfl, hls, hd⟩
          have HLS := Lib.hid hls
          have HR := Lib.hid hr
          have HLL := Lib.hid hl
          have U7 := Lib.hid (hu.out.trans (Upd.of_below hd (fun _ => False)) (fun _ h => h.elim))
          clear hls hd hr hl QNw QSw HSVw QNc0 QNc1 QNc2 QNc3 QNc4 QNc5 QNl
          have BC7 := Lib.hid (BC.out.upd U7.out (fun h => h))
          have BCc0 : wO.cell? ⟨w.heap.size, 0, none⟩ = some (.slice A n c) := BC7.out.cell 0
          have BCc1 : wO.cell? ⟨w.heap.size, 1, none⟩ = some (.slice M m d) := BC7.out.cell 1
          have BCc2 : wO.cell? ⟨w.heap.size, 2, none⟩ = some (.int .i64 st) := BC7.out.cell 2
          have BCc3 : wO.cell? ⟨w.heap.size, 3, none⟩ = some (.int .i64 sp) := BC7.out.cell 3
          have BCc4 : wO.cell? ⟨w.heap.size, 4, none⟩ = some (.int .i64 cs) := BC7.out.cell 4
          have BCc5 : wO.cell? ⟨w.heap.size, 5, none⟩ = some (.int .u64 sa) := BC7.out.cell 5
          have BCl : w.heap.size < wO.heap.size := BC7.out.lt
          obtain rfl : m = r := by rw [← HR.out, ← HLL.out, ← HM.out]; exact (couts_4 _ _ _ _ _).symm
          have HRM : Hid (m ≤ m) := Lib.hid (Nat.le_refl _)
          go_wp2_with fail
          clear BCc0 BCc1 BCc2 BCc3 BCc4 BCc5 BCl
          go_loopw [14] (fun iv wr2 => ∃ j : Nat, j ≤ m ∧ iv = .int .i64 j ∧ Hid (Upd (fun _ => False) wO wr2)) (fun iv _ => m - (intOf iv).toNat)
          case atStart => exact ⟨0, Nat.zero_le _, rfl, Lib.hid (Upd.refl _ _)⟩
          case round =>
            obtain ⟨j, hj, rfl, hu2⟩ := hrel
            by_cases hlt : j < m
            · obtain ⟨o, ho⟩ : ∃ o, l[j]? = some o := ⟨l[j]'(by rw [HR.out]; exact hlt), List.getElem?_eq_getElem _⟩
              obtain ⟨mm, cz, vl, hmm, ho2, hmay⟩ := couts_at (n := n) (ms := ms) (kind := 4) (now := 5) (vals := vals) HK1.out HK4.out (by rw [HLL.out]; exact ho)
              subst ho2
              obtain ⟨b, of, e, hb, hc⟩ := (HLS.out.upd0 hu2.out).row o5_len (by decide) ho
              have d0 := hc 0 _ rfl
              have d1 := hc 1 _ rfl
              have d2 := hc 2 _ rfl
              have d3 := hc 3 _ rfl
              have d4 := hc 4 _ rfl
              simp only [Nat.add_zero, ← Nat.add_assoc] at d0 d1 d2 d3 d4
              subst e
              obtain ⟨mb, mo, e, hmb, m0, m1⟩ := (HS.out.upd0 (U7.out.trans hu2.out (fun _ h => h.elim))).pr hmm
              subst e
              have i0 : (0 : Int) ≤ (j : Int) := Int.natCast_nonneg _
              have i1 : (j : Int) < (m : Int) := by omega
              skip
              have HMAY := Lib.hid hmay
              have HU2 := Lib.hid (hu2.out)
              have BC8 := Lib.hid (BC7.out.upd hu2.out (fun h => h))
              have BDc1 : wr.cell? ⟨w.heap.size, 1, none⟩ = some (.slice (some ⟨mb, mo, none⟩) m d) := BC8.out.cell 1
              have BDl : w.heap.size < wr.heap.size := BC8.out.lt
              clear ho hmm hmay hc m1 hu2
              go_wp2_with fail
              go_region_held3 (fun w' => w'.cell? ⟨b, of + j * 5, none⟩ = some (.int .i64 mm.1) ∧ w'.cell? ⟨b, of + j * 5 + 1, none⟩ = some (.int .i64 4) ∧ w'.cell? ⟨b, of + j * 5 + 2, none⟩ = some (.int .i64 cz) ∧ w'.cell? ⟨b, of + j * 5 + 3, none⟩ = some (.int .i64 vl) ∧ w'.cell? ⟨b, of + j * 5 + 4, none⟩ = some (.int .u64 5) ∧ w'.cell? ⟨mb, mo + j * 2, none⟩ = some (.int .i64 mm.1) ∧ w'.cell? ⟨w.heap.size, 1, none⟩ = some (.slice (some ⟨mb, mo, none⟩) m d)) (go_keep) ((go_at_call 25; refine (may_to HMAY.out _).mono ?_; rintro e w9 ⟨rfl, hd⟩; have hu9 := Upd.of_below hd (fun _ => False); have U9 := Lib.hid (((Upd.refl (fun _ => False) wr).drew).trans hu9 (fun _ h => h.elim)); have x0 : w9.cell? ⟨b, of + j * 5, none⟩ = some (.int .i64 mm.1) := (U9.out.cellq (p := ⟨b, of + j * 5, none⟩) hb (fun h => h)).trans d0; have x1 : w9.cell? ⟨b, of + j * 5 + 1, none⟩ = some (.int .i64 4) := (U9.out.cellq (p := ⟨b, of + j * 5 + 1, none⟩) hb (fun h => h)).trans d1; have x2 : w9.cell? ⟨b, of + j * 5 + 2, none⟩ = some (.int .i64 cz) := (U9.out.cellq (p := ⟨b, of + j * 5 + 2, none⟩) hb (fun h => h)).trans d2; have x3 : w9.cell? ⟨b, of + j * 5 + 3, none⟩ = some (.int .i64 vl) := (U9.out.cellq (p := ⟨b, of + j * 5 + 3, none⟩) hb (fun h => h)).trans d3; have x4 : w9.cell? ⟨b, of + j * 5 + 4, none⟩ = some (.int .u64 5) := (U9.out.cellq (p := ⟨b, of + j * 5 + 4, none⟩) hb (fun h => h)).trans d4; have x5 : w9.cell? ⟨mb, mo + j * 2, none⟩ = some (.int .i64 mm.1) := (U9.out.cellq (p := ⟨mb, mo + j * 2, none⟩) hmb (fun h => h)).trans m0; have x6 : w9.cell? ⟨w.heap.size, 1, none⟩ = some (.slice (some ⟨mb, mo, none⟩) m d) := (U9.out.cellq (p := ⟨w.heap.size, 1, none⟩) BDl (fun h => h)).trans BDc1; clear hd hu9))
              go_wp2
              go_roundw
              case rel => exact ⟨j + 1, by omega, by go_num, Lib.hid (HU2.out.trans U9.out (fun _ h => h.elim))⟩
              case measure => simp [intOf]; omega
            · skip
              go_wp2
              go_roundw
              case rel => exact ⟨.inr (.inr (.inr (.inr rfl))), Lib.hid (U7.out.trans hu2.out (fun _ h => h.elim))⟩
              case measure => simp [intOf]
        · go_wp2
          go_ret
          exact ⟨rfl, (U.out.trans hu.out (fun _ h => h.elim)).below0⟩
    · have g60 : (v : Int) > 60 := by omega
      refine (few_to (b := true) (by simp [hf.1, hf.2]) hn1 hm1 _).mono ?_
      rintro e w2 ⟨rfl, hd⟩
      have hu : Upd (fun _ => False) w1 w2 := Upd.of_below hd (fun _ => False)
      have HA2 := Lib.hid (HA1.out.upd0 hu)
      have HS2 := Lib.hid (HS1.out.upd0 hu)
      have HSV2 := Lib.hid (HSV1.out.upd0 hu)
      have BC2 := Lib.hid (BC1.out.upd hu (fun h => h))
      have U2 := Lib.hid (U1.out.trans hu (fun _ h => h.elim))
      clear hd hu HA1 HS1 BC1 U1 HSV1 y0 y1 y2 y3 y4 y5 ly
      have y0 : w2.cell? ⟨w.heap.size, 0, none⟩ = some (.slice A n c) := BC2.out.cell 0
      have y1 : w2.cell? ⟨w.heap.size, 1, none⟩ = some (.slice M m d) := BC2.out.cell 1
      have y2 : w2.cell? ⟨w.heap.size, 2, none⟩ = some (.int .i64 st) := BC2.out.cell 2
      have y3 : w2.cell? ⟨w.heap.size, 3, none⟩ = some (.int .i64 sp) := BC2.out.cell 3
      have y4 : w2.cell? ⟨w.heap.size, 4, none⟩ = some (.int .i64 cs) := BC2.out.cell 4
      have y5 : w2.cell? ⟨w.heap.size, 5, none⟩ = some (.int .u64 sa) := BC2.out.cell 5
      have ly := BC2.out.lt
      go_wp2
      go_ret
      exact ⟨rfl, U2.out.below0⟩
  · skip
    refine (few_to (b := false) (by simp at hf ⊢; exact hf) hn1 hm1 _).mono ?_
    rintro e w2 ⟨rfl, hd⟩
    have hu : Upd (fun _ => False) w1 w2 := Upd.of_below hd (fun _ => False)
    have HA2 := Lib.hid (HA1.out.upd0 hu)
    have HS2 := Lib.hid (HS1.out.upd0 hu)
    have HSV2 := Lib.hid (HSV1.out.upd0 hu)
    have BC2 := Lib.hid (BC1.out.upd hu (fun h => h))
    have U2 := Lib.hid (U1.out.trans hu (fun _ h => h.elim))
    clear hd hu HA1 HS1 BC1 U1 HSV1 y0 y1 y2 y3 y4 y5 ly
    go_wp2
    go_ret
    exact ⟨rfl, U2.out.below0⟩
theorem callmay_walk {w : World} (v0 : Value) (w0 : IsCall w v0) (a1 : Int) (w1 : (Lit.int .u8 a1).wf = true) (A2 : Option Addr) (len2 cap2 : Nat) (L2 : List (List Value)) (hL2 : L2.length = len2) (hlc2 : len2 ≤ cap2) (hm2 : cap2 ≤ maxLen) (hn2 : A2 = none → len2 = 0 ∧ cap2 = 0) (hok2 : ∀ row ∈ L2, Oks [.int .i64] row) (hr2 : Rows w A2 1 L2) :
    Calls Try.prog 8 #[v0, .int .u8 a1, .slice A2 len2 cap2] w fun e w' => e = .returned (.bool true) ∧ Below w.heap.size w w' := by
  obtain ⟨A, n, c, M, m, d, st, sp, cs, sa, xs, ms, rfl, hb⟩ := w0
  obtain ⟨vals, hvl, _, hsv⟩ := sl_nums hL2 hlc2 hm2 hn2 hok2 hr2
  unfold maxLen at hm2
  exact callmay_any A M A2 n c m d cap2 len2 st sp cs sa a1 xs ms vals hb.hn hb.hm hvl hb.bn hb.bm (by omega) (u8_0 w1) (u8_1 w1) w hb.ha hb.hs hsv
end Go.Proofs.Ytilpcgipjfegcaa
