/- CallTells. -/
import Derived.Test.YtilpcgipjfegcaaWg
import Derived.Test.YtilpcgipjfegcaaIv2
namespace Go.Proofs.Ytilpcgipjfegcaa
open Go.RowKit
set_option linter.unusedVariables false
set_option linter.unusedSimpArgs false

theorem fieldB (A X : Option Addr) (n c m e : Nat) (st sp cs sa : Int) (W : World) : (Instr.field 38 (.agg #[.slice A n c, .slice X m e, .int .i64 st, .int .i64 sp, .int .i64 cs, .int .u64 sa]) 0).run Try.prog W = .ok (.agg #[.slice A n c, .slice X m e]) W := by
  first | kernel_rfl | rfl | go_simp
def tlΦ (G base : Nat) (A : Option Addr) (n c m : Nat) (M : Option Addr) (d : Nat) (st sp cs sa p r f1 f2 f3 f4 : Int) (okf : Bool) (ms : List (Int × Int)) : Bool → Nat → Value → World → Prop
  | false, 0, v, _ => v = .agg #[.slice A n c, .slice M m d, .int .i64 st, .int .i64 sp, .int .i64 cs, .int .u64 sa]
  | false, 1, v, w => ∃ M' d', v = .agg #[.slice A n c, .slice M' m d', .int .i64 st, .int .i64 sp, .int .i64 cs, .int .u64 sa] ∧ ∃ ob, w.ownsRow ob 64 2 (.slice M' m d') m (prs ms)
  | false, 2, v, _ => v = .pointer (some ⟨G + 1, 0, none⟩)
  | false, 3, v, _ => v = .int .i64 p
  | false, 4, v, _ => v = .pointer (some ⟨G + 1, 1, none⟩)
  | false, 5, v, _ => v = .int .i64 r
  | false, 6, v, w => ∃ M' d', v = .tuple #[.agg #[.slice A n c, .slice M' m d', .int .i64 f1, .int .i64 f2, .int .i64 f3, .int .u64 f4], .bool okf] ∧ ∃ ob, w.ownsRow ob 64 2 (.slice M' m d') m (prs ms)
  | false, 7, v, w => ∃ M' d', v = .tuple #[.agg #[.slice A n c, .slice M' m d', .int .i64 f1, .int .i64 f2, .int .i64 f3, .int .u64 f4], .bool okf] ∧ ∃ ob, w.ownsRow ob 64 2 (.slice M' m d') m (prs ms)
  | true, 7, v, _ => ∃ M' d', v = .tuple #[.agg #[.slice A n c, .slice M' m d', .int .i64 f1, .int .i64 f2, .int .i64 f3, .int .u64 f4], .bool okf]
  | false, 8, v, w => ∃ M' d', v = .agg #[.slice A n c, .slice M' m d', .int .i64 f1, .int .i64 f2, .int .i64 f3, .int .u64 f4] ∧ ∃ ob, w.ownsRow ob 64 2 (.slice M' m d') m (prs ms)
  | _, 9, v, _ => v = .bool okf
  | false, 10, v, w => ∃ g, v = .pointer (some ⟨g, 0, none⟩) ∧ base ≤ g ∧ Blk w g 38 #[.slice none 0 0, .slice none 0 0, .int .i64 0, .int .i64 0, .int .i64 0, .int .u64 0]
  | true, 10, v, w => ∃ g M' d', v = .pointer (some ⟨g, 0, none⟩) ∧ base ≤ g ∧ Blk w g 38 #[.slice A n c, .slice M' m d', .int .i64 f1, .int .i64 f2, .int .i64 f3, .int .u64 f4] ∧ Sl w M' m d' (prs ms)
  | _, _, _, _ => True
theorem tlΦ_stab {G base : Nat} {A : Option Addr} {n c m : Nat} {M : Option Addr} {d : Nat} {st sp cs sa p r f1 f2 f3 f4 : Int} {okf : Bool} {ms : List (Int × Int)} : ∀ lm j v w w', tlΦ G base A n c m M d st sp cs sa p r f1 f2 f3 f4 okf ms lm j v w → Upd (fun _ => False) w w' → tlΦ G base A n c m M d st sp cs sa p r f1 f2 f3 f4 okf ms lm j v w' := by
  intro lm j v w w' h hu
  rcases j with _ | _ | _ | _ | _ | _ | _ | _ | _ | _ | _ | j <;> cases lm
  all_goals first
    | exact h
    | (obtain ⟨M', d', h1, ob, h2⟩ := h; exact ⟨M', d', h1, ob, own_upd0 h2 hu⟩)
    | (obtain ⟨g, h1, h2, h3⟩ := h; exact ⟨g, h1, h2, h3.upd hu (fun h => h)⟩)
    | (obtain ⟨g, M', d', h1, h2, h3, h4⟩ := h; exact ⟨g, M', d', h1, h2, h3.upd hu (fun h => h), h4.upd0 hu⟩)
    | trivial
set_option maxHeartbeats 20000000 in
set_option maxRecDepth 100000 in
theorem calltells_any (A M : Option Addr) (n c m d : Nat) (st sp cs sa p r now : Int) (xs : List Int) (ms : List (Int × Int)) (hn : xs.length = n) (hm : ms.length = m) (hn1 : n ≤ 9223372036854775807) (hm1 : m ≤ 9223372036854775807) (w : World) (ha : Sl w A n c (nums xs)) (hs : Sl w M m d (prs ms)) :
    Calls Try.prog 6 #[.agg #[.slice A n c, .slice M m d, .int .i64 st, .int .i64 sp, .int .i64 cs, .int .u64 sa], .agg #[.int .i64 p, .int .i64 r], .int .u64 now] w fun e w' => e = .returned (.bool true) ∧ Below w.heap.size w w' := by
  have HN := Lib.hid hn
  have HM := Lib.hid hm
  have HAw := Lib.hid ha
  have HSw := Lib.hid hs
  have HA0 := Lib.hid ((ha.alloc (.cells #[.slice A n c, .slice M m d, .int .i64 st, .int .i64 sp, .int .i64 cs, .int .u64 sa] 28)).alloc (.cells #[.int .i64 p, .int .i64 r] 49))
  have HS0 := Lib.hid ((hs.alloc (.cells #[.slice A n c, .slice M m d, .int .i64 st, .int .i64 sp, .int .i64 cs, .int .u64 sa] 28)).alloc (.cells #[.int .i64 p, .int .i64 r] 49))
  have BC0 := Lib.hid ((Blk.new w #[.slice A n c, .slice M m d, .int .i64 st, .int .i64 sp, .int .i64 cs, .int .u64 sa] 28).alloc (.cells #[.int .i64 p, .int .i64 r] 49))
  have AR0 := Lib.hid (Blk.new1 w (.cells #[.slice A n c, .slice M m d, .int .i64 st, .int .i64 sp, .int .i64 cs, .int .u64 sa] 28) #[.int .i64 p, .int .i64 r] 49)
  have U0 : Hid (Upd (fun _ => False) w _) := Lib.hid (((Upd.refl (fun _ => False) w).alloc (.cells #[.slice A n c, .slice M m d, .int .i64 st, .int .i64 sp, .int .i64 cs, .int .u64 sa] 28)).alloc (.cells #[.int .i64 p, .int .i64 r] 49))
  clear ha hs hn hm
  go_enter Try.func6, Try.ntmps6
  go_wp2_with fail
  refine (awake_any _).mono ?_
  rintro e w1 ⟨rfl, hd⟩
  have hu := Upd.of_below hd (fun _ => False)
  have HA1 := Lib.hid (HA0.out.upd0 hu)
  have HS1 := Lib.hid (HS0.out.upd0 hu)
  have BC1 := Lib.hid (BC0.out.upd hu (fun h => h))
  have U1 := Lib.hid (U0.out.trans hu (fun _ h => h.elim))
  have AR1 := Lib.hid (AR0.out.upd hu (fun h => h))
  clear AR0 hd hu HA0 HS0 BC0 U0
  have y0 : w1.cell? ⟨w.heap.size, 0, none⟩ = some (.slice A n c) := BC1.out.cell 0
  have y1 : w1.cell? ⟨w.heap.size, 1, none⟩ = some (.slice M m d) := BC1.out.cell 1
  have y2 : w1.cell? ⟨w.heap.size, 2, none⟩ = some (.int .i64 st) := BC1.out.cell 2
  have y3 : w1.cell? ⟨w.heap.size, 3, none⟩ = some (.int .i64 sp) := BC1.out.cell 3
  have y4 : w1.cell? ⟨w.heap.size, 4, none⟩ = some (.int .i64 cs) := BC1.out.cell 4
  have y5 : w1.cell? ⟨w.heap.size, 5, none⟩ = some (.int .u64 sa) := BC1.out.cell 5
  have ly := BC1.out.lt
  go_wp2_with fail
  by_cases hf : n ≤ 50 ∧ m ≤ 50
  · obtain ⟨hf1, hf2⟩ := id hf
    refine (few_to (b := true) (by simp [hf.1, hf.2]) hn1 hm1 _).mono ?_
    rintro e w2 ⟨rfl, hd⟩
    have hu : Upd (fun _ => False) w1 w2 := Upd.of_below hd (fun _ => False)
    have HA2 := Lib.hid (HA1.out.upd0 hu)
    have HS2 := Lib.hid (HS1.out.upd0 hu)
    have BC2 := Lib.hid (BC1.out.upd hu (fun h => h))
    have U2 := Lib.hid (U1.out.trans hu (fun _ h => h.elim))
    have AR2 := Lib.hid (AR1.out.upd hu (fun h => h))
    clear AR1 hd hu HA1 HS1 BC1 U1 y0 y1 y2 y3 y4 y5 ly
    have y0 : w2.cell? ⟨w.heap.size, 0, none⟩ = some (.slice A n c) := BC2.out.cell 0
    have y1 : w2.cell? ⟨w.heap.size, 1, none⟩ = some (.slice M m d) := BC2.out.cell 1
    have y2 : w2.cell? ⟨w.heap.size, 2, none⟩ = some (.int .i64 st) := BC2.out.cell 2
    have y3 : w2.cell? ⟨w.heap.size, 3, none⟩ = some (.int .i64 sp) := BC2.out.cell 3
    have y4 : w2.cell? ⟨w.heap.size, 4, none⟩ = some (.int .i64 cs) := BC2.out.cell 4
    have y5 : w2.cell? ⟨w.heap.size, 5, none⟩ = some (.int .u64 sa) := BC2.out.cell 5
    have ly := BC2.out.lt
    obtain ⟨r1, r2, r3, r4, okr, hq⟩ : ∃ a1 a2 a3 a4 ok, crun (st, sp, cs, sa) = ((a1, a2, a3, a4), ok) := ⟨_, _, _, _, _, rfl⟩
    have HRN := Lib.hid hq
    clear hq
    obtain ⟨f1, f2, f3, f4, okf, hq⟩ : ∃ a1 a2 a3 a4 ok, cfail (st, sp, cs, sa) p r = ((a1, a2, a3, a4), ok) := ⟨_, _, _, _, _, rfl⟩
    have HFL := Lib.hid hq
    clear hq
    obtain ⟨g1, g2, g3, g4, okg, hq⟩ : ∃ a1 a2 a3 a4 ok, cend (st, sp, cs, sa) = ((a1, a2, a3, a4), ok) := ⟨_, _, _, _, _, rfl⟩
    have HEN := Lib.hid hq
    clear hq
    clear y0 y1 y2 y3 y4 y5 ly
    have BCc0 : w2.cell? ⟨w.heap.size, 0, none⟩ = some (.slice A n c) := BC2.out.cell 0
    have BCc1 : w2.cell? ⟨w.heap.size, 1, none⟩ = some (.slice M m d) := BC2.out.cell 1
    have BCc2 : w2.cell? ⟨w.heap.size, 2, none⟩ = some (.int .i64 st) := BC2.out.cell 2
    have BCc3 : w2.cell? ⟨w.heap.size, 3, none⟩ = some (.int .i64 sp) := BC2.out.cell 3
    have BCc4 : w2.cell? ⟨w.heap.size, 4, none⟩ = some (.int .i64 cs) := BC2.out.cell 4
    have BCc5 : w2.cell? ⟨w.heap.size, 5, none⟩ = some (.int .u64 sa) := BC2.out.cell 5
    have BCl : w.heap.size < w2.heap.size := BC2.out.lt
    have ARc0 : w2.cell? ⟨w.heap.size + 1, 0, none⟩ = some (.int .i64 p) := AR2.out.cell 0
    have ARc1 : w2.cell? ⟨w.heap.size + 1, 1, none⟩ = some (.int .i64 r) := AR2.out.cell 1
    have ARl : w.heap.size + 1 < w2.heap.size := AR2.out.lt
    go_wp2_with fail
    clear BCc0 BCc1 BCc2 BCc3 BCc4 BCc5 BCl ARc0 ARc1 ARl
    refine (cmade_any A M n c m d st sp cs sa ms HM.out (by omega) _ HS2.out).mono ?_
    rintro e w3 ⟨X1, e1, rfl, qQA, hd⟩
    have hu := Upd.of_below hd (fun _ => False)
    have BC3 := Lib.hid (BC2.out.upd hu (fun h => h))
    have AR3 := Lib.hid (AR2.out.upd hu (fun h => h))
    have HA3 := Lib.hid (HA2.out.upd0 hu)
    have HS3 := Lib.hid (HS2.out.upd0 hu)
    have U3 := Lib.hid (U2.out.trans hu (fun _ h => h.elim))
    clear hd hu BC2 AR2 HA2 HS2 U2
    have QA3 := Lib.hid qQA
    clear qQA
    have BCc0 : w3.cell? ⟨w.heap.size, 0, none⟩ = some (.slice A n c) := BC3.out.cell 0
    have BCc1 : w3.cell? ⟨w.heap.size, 1, none⟩ = some (.slice M m d) := BC3.out.cell 1
    have BCc2 : w3.cell? ⟨w.heap.size, 2, none⟩ = some (.int .i64 st) := BC3.out.cell 2
    have BCc3 : w3.cell? ⟨w.heap.size, 3, none⟩ = some (.int .i64 sp) := BC3.out.cell 3
    have BCc4 : w3.cell? ⟨w.heap.size, 4, none⟩ = some (.int .i64 cs) := BC3.out.cell 4
    have BCc5 : w3.cell? ⟨w.heap.size, 5, none⟩ = some (.int .u64 sa) := BC3.out.cell 5
    have BCl : w.heap.size < w3.heap.size := BC3.out.lt
    have ARc0 : w3.cell? ⟨w.heap.size + 1, 0, none⟩ = some (.int .i64 p) := AR3.out.cell 0
    have ARc1 : w3.cell? ⟨w.heap.size + 1, 1, none⟩ = some (.int .i64 r) := AR3.out.cell 1
    have ARl : w.heap.size + 1 < w3.heap.size := AR3.out.lt
    go_wp2_with fail
    clear BCc0 BCc1 BCc2 BCc3 BCc4 BCc5 BCl ARc0 ARc1 ARl
    refine (run_any A X1 n c m e1 st sp cs sa HRN.out _).mono ?_
    rintro e w4 ⟨rfl, hd⟩
    have hu := Upd.of_below hd (fun _ => False)
    have BC4 := Lib.hid (BC3.out.upd hu (fun h => h))
    have AR4 := Lib.hid (AR3.out.upd hu (fun h => h))
    have HA4 := Lib.hid (HA3.out.upd0 hu)
    have HS4 := Lib.hid (HS3.out.upd0 hu)
    have QA4 := Lib.hid (QA3.out.upd0 hu)
    have U4 := Lib.hid (U3.out.trans hu (fun _ h => h.elim))
    clear hd hu BC3 AR3 HA3 HS3 QA3 U3
    have BCc0 : w4.cell? ⟨w.heap.size, 0, none⟩ = some (.slice A n c) := BC4.out.cell 0
    have BCc1 : w4.cell? ⟨w.heap.size, 1, none⟩ = some (.slice M m d) := BC4.out.cell 1
    have BCc2 : w4.cell? ⟨w.heap.size, 2, none⟩ = some (.int .i64 st) := BC4.out.cell 2
    have BCc3 : w4.cell? ⟨w.heap.size, 3, none⟩ = some (.int .i64 sp) := BC4.out.cell 3
    have BCc4 : w4.cell? ⟨w.heap.size, 4, none⟩ = some (.int .i64 cs) := BC4.out.cell 4
    have BCc5 : w4.cell? ⟨w.heap.size, 5, none⟩ = some (.int .u64 sa) := BC4.out.cell 5
    have BCl : w.heap.size < w4.heap.size := BC4.out.lt
    have ARc0 : w4.cell? ⟨w.heap.size + 1, 0, none⟩ = some (.int .i64 p) := AR4.out.cell 0
    have ARc1 : w4.cell? ⟨w.heap.size + 1, 1, none⟩ = some (.int .i64 r) := AR4.out.cell 1
    have ARl : w.heap.size + 1 < w4.heap.size := AR4.out.lt
    go_wp2_with fail
    clear BCc0 BCc1 BCc2 BCc3 BCc4 BCc5 BCl ARc0 ARc1 ARl
    refine (rrun_any A M n c m d st sp cs sa HRN.out _).mono ?_
    rintro e w5 ⟨rfl, hd⟩
    have hu := Upd.of_below hd (fun _ => False)
    have BC5 := Lib.hid ((BC4.out.alloc _).upd hu (fun h => h))
    have AR5 := Lib.hid ((AR4.out.alloc _).upd hu (fun h => h))
    have HA5 := Lib.hid ((HA4.out.alloc _).upd0 hu)
    have HS5 := Lib.hid ((HS4.out.alloc _).upd0 hu)
    have QA5 := Lib.hid ((QA4.out.alloc _).upd0 hu)
    have U5 := Lib.hid ((U4.out.alloc _).trans hu (fun _ h => h.elim))
    have XA5 := Lib.hid ((Blk.new w4 #[.slice A n c, .slice X1 m e1, .int .i64 r1, .int .i64 r2, .int .i64 r3, .int .u64 r4] 38).upd hu (fun h => h))
    clear hd hu BC4 AR4 HA4 HS4 QA4 U4
    have BCc0 : w5.cell? ⟨w.heap.size, 0, none⟩ = some (.slice A n c) := BC5.out.cell 0
    have BCc1 : w5.cell? ⟨w.heap.size, 1, none⟩ = some (.slice M m d) := BC5.out.cell 1
    have BCc2 : w5.cell? ⟨w.heap.size, 2, none⟩ = some (.int .i64 st) := BC5.out.cell 2
    have BCc3 : w5.cell? ⟨w.heap.size, 3, none⟩ = some (.int .i64 sp) := BC5.out.cell 3
    have BCc4 : w5.cell? ⟨w.heap.size, 4, none⟩ = some (.int .i64 cs) := BC5.out.cell 4
    have BCc5 : w5.cell? ⟨w.heap.size, 5, none⟩ = some (.int .u64 sa) := BC5.out.cell 5
    have BCl : w.heap.size < w5.heap.size := BC5.out.lt
    have ARc0 : w5.cell? ⟨w.heap.size + 1, 0, none⟩ = some (.int .i64 p) := AR5.out.cell 0
    have ARc1 : w5.cell? ⟨w.heap.size + 1, 1, none⟩ = some (.int .i64 r) := AR5.out.cell 1
    have ARl : w.heap.size + 1 < w5.heap.size := AR5.out.lt
    have XAc0 : w5.cell? ⟨w4.heap.size, 0, none⟩ = some (.slice A n c) := XA5.out.cell 0
    have XAc1 : w5.cell? ⟨w4.heap.size, 1, none⟩ = some (.slice X1 m e1) := XA5.out.cell 1
    have XAc2 : w5.cell? ⟨w4.heap.size, 2, none⟩ = some (.int .i64 r1) := XA5.out.cell 2
    have XAc3 : w5.cell? ⟨w4.heap.size, 3, none⟩ = some (.int .i64 r2) := XA5.out.cell 3
    have XAc4 : w5.cell? ⟨w4.heap.size, 4, none⟩ = some (.int .i64 r3) := XA5.out.cell 4
    have XAc5 : w5.cell? ⟨w4.heap.size, 5, none⟩ = some (.int .u64 r4) := XA5.out.cell 5
    have XAl : w4.heap.size < w5.heap.size := XA5.out.lt
    go_wp2_with fail
    clear BCc0 BCc1 BCc2 BCc3 BCc4 BCc5 BCl ARc0 ARc1 ARl XAc0 XAc1 XAc2 XAc3 XAc4 XAc5 XAl
    refine Code.gen (fun W => Blk W (w.heap.size) 28 #[.slice A n c, .slice M m d, .int .i64 st, .int .i64 sp, .int .i64 cs, .int .u64 sa] ∧ Blk W (w.heap.size + 1) 49 #[.int .i64 p, .int .i64 r] ∧ Blk W (w4.heap.size) 38 #[.slice A n c, .slice X1 m e1, .int .i64 r1, .int .i64 r2, .int .i64 r3, .int .u64 r4] ∧ Blk W (w5.heap.size) 28 #[.slice A n c, .slice M m d, .int .i64 r1, .int .i64 r2, .int .i64 r3, .int .u64 r4] ∧ Sl W A n c (nums xs) ∧ Sl W M m d (prs ms) ∧ Sl W X1 m e1 (prs ms) ∧ Upd (fun _ => False) w W) ⟨(BC5.out.alloc _), (AR5.out.alloc _), (XA5.out.alloc _), (Blk.new w5 #[.slice A n c, .slice M m d, .int .i64 r1, .int .i64 r2, .int .i64 r3, .int .u64 r4] 28), (HA5.out.alloc _), (HS5.out.alloc _), (QA5.out.alloc _), (U5.out.alloc _)⟩ ?_
    rintro w6 ⟨qBC, qAR, qXA, qXB, qHA, qHS, qQA, qU⟩
    have BC6 := Lib.hid qBC
    have AR6 := Lib.hid qAR
    have XA6 := Lib.hid qXA
    have XB6 := Lib.hid qXB
    have HA6 := Lib.hid qHA
    have HS6 := Lib.hid qHS
    have QA6 := Lib.hid qQA
    have U6 := Lib.hid qU
    clear qBC qAR qXA qXB qHA qHS qQA qU BC5 AR5 XA5 HA5 HS5 QA5 U5
    have BCc0 : w6.cell? ⟨w.heap.size, 0, none⟩ = some (.slice A n c) := BC6.out.cell 0
    have BCc1 : w6.cell? ⟨w.heap.size, 1, none⟩ = some (.slice M m d) := BC6.out.cell 1
    have BCc2 : w6.cell? ⟨w.heap.size, 2, none⟩ = some (.int .i64 st) := BC6.out.cell 2
    have BCc3 : w6.cell? ⟨w.heap.size, 3, none⟩ = some (.int .i64 sp) := BC6.out.cell 3
    have BCc4 : w6.cell? ⟨w.heap.size, 4, none⟩ = some (.int .i64 cs) := BC6.out.cell 4
    have BCc5 : w6.cell? ⟨w.heap.size, 5, none⟩ = some (.int .u64 sa) := BC6.out.cell 5
    have BCl : w.heap.size < w6.heap.size := BC6.out.lt
    have ARc0 : w6.cell? ⟨w.heap.size + 1, 0, none⟩ = some (.int .i64 p) := AR6.out.cell 0
    have ARc1 : w6.cell? ⟨w.heap.size + 1, 1, none⟩ = some (.int .i64 r) := AR6.out.cell 1
    have ARl : w.heap.size + 1 < w6.heap.size := AR6.out.lt
    have XAc0 : w6.cell? ⟨w4.heap.size, 0, none⟩ = some (.slice A n c) := XA6.out.cell 0
    have XAc1 : w6.cell? ⟨w4.heap.size, 1, none⟩ = some (.slice X1 m e1) := XA6.out.cell 1
    have XAc2 : w6.cell? ⟨w4.heap.size, 2, none⟩ = some (.int .i64 r1) := XA6.out.cell 2
    have XAc3 : w6.cell? ⟨w4.heap.size, 3, none⟩ = some (.int .i64 r2) := XA6.out.cell 3
    have XAc4 : w6.cell? ⟨w4.heap.size, 4, none⟩ = some (.int .i64 r3) := XA6.out.cell 4
    have XAc5 : w6.cell? ⟨w4.heap.size, 5, none⟩ = some (.int .u64 r4) := XA6.out.cell 5
    have XAl : w4.heap.size < w6.heap.size := XA6.out.lt
    have XBc0 : w6.cell? ⟨w5.heap.size, 0, none⟩ = some (.slice A n c) := XB6.out.cell 0
    have XBc1 : w6.cell? ⟨w5.heap.size, 1, none⟩ = some (.slice M m d) := XB6.out.cell 1
    have XBc2 : w6.cell? ⟨w5.heap.size, 2, none⟩ = some (.int .i64 r1) := XB6.out.cell 2
    have XBc3 : w6.cell? ⟨w5.heap.size, 3, none⟩ = some (.int .i64 r2) := XB6.out.cell 3
    have XBc4 : w6.cell? ⟨w5.heap.size, 4, none⟩ = some (.int .i64 r3) := XB6.out.cell 4
    have XBc5 : w6.cell? ⟨w5.heap.size, 5, none⟩ = some (.int .u64 r4) := XB6.out.cell 5
    have XBl : w5.heap.size < w6.heap.size := XB6.out.lt
    clear BCc0 BCc1 BCc2 BCc3 BCc4 BCc5 BCl ARc0 ARc1 ARl XAc0 XAc1 XAc2 XAc3 XAc4 XAc5 XAl XBc0 XBc1 XBc2 XBc3 XBc4 XBc5 XBl
    refine wp_region_inv2 (by kernel_rfl) (by kernel_rfl) (tlΦ w.heap.size w6.heap.size A n c m M d st sp cs sa p r f1 f2 f3 f4 okf ms) tlΦ_stab ?_ ?_ ?_
    · intro j o k ho hne hne2 hk a w' lm hF hM hD
      have hBB := (BC6.out.drew).upd hF.upd (fun h => h)
      have hAA := (AR6.out.drew).upd hF.upd (fun h => h)
      have b0 : w'.cell? ⟨w.heap.size, 0, none⟩ = some (.slice A n c) := hBB.cell 0
      have b1 : w'.cell? ⟨w.heap.size, 1, none⟩ = some (.slice M m d) := hBB.cell 1
      have b2 : w'.cell? ⟨w.heap.size, 2, none⟩ = some (.int .i64 st) := hBB.cell 2
      have b3 : w'.cell? ⟨w.heap.size, 3, none⟩ = some (.int .i64 sp) := hBB.cell 3
      have b4 : w'.cell? ⟨w.heap.size, 4, none⟩ = some (.int .i64 cs) := hBB.cell 4
      have b5 : w'.cell? ⟨w.heap.size, 5, none⟩ = some (.int .u64 sa) := hBB.cell 5
      have a0_ : w'.cell? ⟨w.heap.size + 1, 0, none⟩ = some (.int .i64 p) := hAA.cell 0
      have a1_ : w'.cell? ⟨w.heap.size + 1, 1, none⟩ = some (.int .i64 r) := hAA.cell 1
      have e8 : a.tmps.getD 3 undef = .pointer (some ⟨w.heap.size, 0, none⟩) := hF.keep 3 (by kernel_rfl)
      have e9 : a.tmps.getD 4 undef = .pointer (some ⟨w.heap.size + 1, 0, none⟩) := hF.keep 4 (by kernel_rfl)
      have hbs : w6.heap.size ≤ w'.heap.size := by have := hF.upd.size; simpa using this
      have hj7 : j < 11 := by
        have := (Array.getElem?_eq_some_iff.1 ho).1
        simp at this hne hne2
        omega
      rcases j with _ | _ | _ | _ | _ | _ | _ | _ | _ | _ | _ | j
      all_goals (try (exfalso; omega))
      all_goals simp at ho
      all_goals subst ho
      all_goals simp at hk
      all_goals (try subst hk)
      · skip
        have elm : lm = false := by
          cases lm
          · rfl
          · exact absurd rfl (hM rfl _ rfl ⟨0, .phase⟩ (by simp) rfl)
        subst elm
        unfold Oper.wp
        go_simp
        exact ⟨_, rfl, Upd.refl _ _, rfl⟩
      · skip
        have elm : lm = false := by
          cases lm
          · rfl
          · exact absurd rfl (hM rfl _ rfl ⟨1, .phase⟩ (by simp) rfl)
        subst elm
        have f0_ : a.tmps.getD 38 undef = .agg #[.slice A n c, .slice M m d, .int .i64 st, .int .i64 sp, .int .i64 cs, .int .u64 sa] := hD ⟨0, .data⟩ (by simp) rfl _ _ rfl rfl
        have HSL := Lib.hid (HS6.out.drew.upd0 hF.upd)
        clear hD hM
        unfold Oper.wp
        go_simp
        refine (cmade_own A M n c m d st sp cs sa ms HM.out (by omega) _ HSL.out).mono ?_
        rintro e w3_ ⟨M', d', rfl, ho, hd⟩
        exact ⟨_, rfl, Upd.of_below hd _, ⟨M', d', rfl, ho⟩⟩
      · skip
        have elm : lm = false := by
          cases lm
          · rfl
          · exact absurd rfl (hM rfl _ rfl ⟨2, .phase⟩ (by simp) rfl)
        subst elm
        unfold Oper.wp
        go_simp
        exact ⟨_, rfl, Upd.refl _ _, rfl⟩
      · skip
        have elm : lm = false := by
          cases lm
          · rfl
          · exact absurd rfl (hM rfl _ rfl ⟨3, .phase⟩ (by simp) rfl)
        subst elm
        have f2_ : a.tmps.getD 40 undef = .pointer (some ⟨w.heap.size + 1, 0, none⟩) := hD ⟨2, .data⟩ (by simp) rfl _ _ rfl rfl
        unfold Oper.wp
        go_simp
        exact ⟨_, rfl, Upd.refl _ _, rfl⟩
      · skip
        have elm : lm = false := by
          cases lm
          · rfl
          · exact absurd rfl (hM rfl _ rfl ⟨4, .phase⟩ (by simp) rfl)
        subst elm
        unfold Oper.wp
        go_simp
        exact ⟨_, rfl, Upd.refl _ _, rfl⟩
      · skip
        have elm : lm = false := by
          cases lm
          · rfl
          · exact absurd rfl (hM rfl _ rfl ⟨5, .phase⟩ (by simp) rfl)
        subst elm
        have f4_ : a.tmps.getD 42 undef = .pointer (some ⟨w.heap.size + 1, 1, none⟩) := hD ⟨4, .data⟩ (by simp) rfl _ _ rfl rfl
        unfold Oper.wp
        go_simp
        exact ⟨_, rfl, Upd.refl _ _, rfl⟩
      · skip
        have elm : lm = false := by
          cases lm
          · rfl
          · exact absurd rfl (hM rfl _ rfl ⟨6, .phase⟩ (by simp) rfl)
        subst elm
        obtain ⟨M', d', f1_, ob, ho⟩ : tlΦ w.heap.size w6.heap.size A n c m M d st sp cs sa p r f1 f2 f3 f4 okf ms false 1 (a.tmps.getD 39 undef) w' := hD ⟨1, .data⟩ (by simp) rfl _ _ rfl rfl
        have f3_ : a.tmps.getD 41 undef = .int .i64 p := hD ⟨3, .data⟩ (by simp) rfl _ _ rfl rfl
        have f5_ : a.tmps.getD 43 undef = .int .i64 r := hD ⟨5, .data⟩ (by simp) rfl _ _ rfl rfl
        have HO := Lib.hid ho
        clear hD ho hM
        unfold Oper.wp
        go_simp
        refine (fail_any A M' n c m d' st sp cs sa p r HFL.out _).mono ?_
        rintro e w3_ ⟨rfl, hd⟩
        exact ⟨_, rfl, Upd.of_below hd _, ⟨M', d', rfl, ob, own_upd0 HO.out (Upd.of_below hd _)⟩⟩
      · skip
        have elm : lm = false := by
          cases lm
          · rfl
          · exact absurd rfl (hM rfl _ rfl ⟨7, .phase⟩ (by simp) rfl)
        subst elm
        obtain ⟨M', d', f6_, ob, ho⟩ : tlΦ w.heap.size w6.heap.size A n c m M d st sp cs sa p r f1 f2 f3 f4 okf ms false 6 (a.tmps.getD 44 undef) w' := hD ⟨6, .data⟩ (by simp) rfl _ _ rfl rfl
        unfold Oper.wp
        go_simp
        exact ⟨_, rfl, Upd.refl _ _, ⟨M', d', rfl, ob, ho⟩⟩
      · skip
        have elm : lm = false := by
          cases lm
          · rfl
          · exact absurd rfl (hM rfl _ rfl ⟨8, .phase⟩ (by simp) rfl)
        subst elm
        obtain ⟨M', d', f7_, ob, ho⟩ : tlΦ w.heap.size w6.heap.size A n c m M d st sp cs sa p r f1 f2 f3 f4 okf ms false 7 (a.tmps.getD 37 undef) w' := hD ⟨7, .data⟩ (by simp) rfl _ _ rfl rfl
        unfold Oper.wp
        go_simp
        exact ⟨_, rfl, Upd.refl _ _, ⟨M', d', rfl, ob, ho⟩⟩
      · obtain ⟨M', d', f7_⟩ : ∃ M' d', a.tmps.getD 37 undef = .tuple #[.agg #[.slice A n c, .slice M' m d', .int .i64 f1, .int .i64 f2, .int .i64 f3, .int .u64 f4], .bool okf] := by
          cases lm
          · obtain ⟨M', d', h1, _⟩ : tlΦ w.heap.size w6.heap.size A n c m M d st sp cs sa p r f1 f2 f3 f4 okf ms false 7 (a.tmps.getD 37 undef) w' := hD ⟨7, .data⟩ (by simp) rfl _ _ rfl rfl
            exact ⟨M', d', h1⟩
          · exact (hD ⟨7, .data⟩ (by simp) rfl _ _ rfl rfl : tlΦ w.heap.size w6.heap.size A n c m M d st sp cs sa p r f1 f2 f3 f4 okf ms true 7 (a.tmps.getD 37 undef) w')
        unfold Oper.wp
        go_simp
        cases lm
        · exact ⟨_, rfl, Upd.refl _ _, rfl⟩
        · exact ⟨_, rfl, Upd.refl _ _, rfl⟩
      · skip
        have elm : lm = false := by
          cases lm
          · rfl
          · exact absurd rfl (hM rfl _ rfl ⟨10, .phase⟩ (by simp) rfl)
        subst elm
        unfold Oper.wp
        go_simp
        exact ⟨_, rfl, (Upd.refl _ _).alloc _, ⟨w'.heap.size, rfl, hbs, Blk.new _ _ _⟩⟩
    · intro o ho a w' hF hD
      simp at ho
      subst ho
      obtain ⟨X, e0, e5, ob, ow⟩ : tlΦ w.heap.size w6.heap.size A n c m M d st sp cs sa p r f1 f2 f3 f4 okf ms false 8 (a.tmps.getD 45 undef) w' := hD ⟨8, .data⟩ (by simp) rfl _ _ rfl rfl
      obtain ⟨gx, e6, hg, hbg⟩ : tlΦ w.heap.size w6.heap.size A n c m M d st sp cs sa p r f1 f2 f3 f4 okf ms false 10 (a.tmps.getD 12 undef) w' := hD ⟨10, .data⟩ (by simp) rfl _ _ rfl rfl
      have hfg := hbg.frz
      have hcg := hbg.cell
      have hlg := hbg.lt
      have HGB := Lib.hid hbg
      have OO := Lib.hid ow
      have HF := Lib.hid hF
      have HG := Lib.hid hg
      clear hbg ow hF hg hD
      have e6' := e6
      unfold Oper.wp
      go_simp
      refine ⟨HF.out.upd.set6 (.inr HG.out) (.slice A n c) (.slice X m e0) (.int .i64 f1) (.int .i64 f2) (.int .i64 f3) (.int .u64 f4), ?_⟩
      intro j o' k hj hne hk h
      have hj11 : j < 12 := by
        have := (List.getElem?_eq_some_iff.1 hj).1
        simp at this hne
        omega
      rcases j with _ | _ | _ | _ | _ | _ | _ | _ | _ | _ | _ | _ | j
      all_goals (try (exfalso; omega))
      all_goals simp at hj
      all_goals subst hj
      all_goals simp at hk
      all_goals (try subst hk)
      all_goals first
        | trivial
        | exact h
        | (obtain ⟨M', d', h1, _⟩ := h; exact ⟨M', d', h1⟩)
        | exact ⟨gx, X, e0, (by first | exact e6' | (rw [← Array.getD_eq_getD_getElem?]; exact e6')), HG.out, HGB.out.set6 (.slice A n c) (.slice X m e0) (.int .i64 f1) (.int .i64 f2) (.int .i64 f3) (.int .u64 f4), own_set6 OO.out HGB.out (by decide) (.slice A n c) (.slice X m e0) (.int .i64 f1) (.int .i64 f2) (.int .i64 f3) (.int .u64 f4)⟩
    · intro o ho a w' hF hD
      have f9_ : a.tmps.getD 46 undef = .bool okf := hD 9 _ _ rfl (by simp) rfl
      obtain ⟨gf, X, e0, e6, hg, hbg, hsl⟩ : tlΦ w.heap.size w6.heap.size A n c m M d st sp cs sa p r f1 f2 f3 f4 okf ms true 10 (a.tmps.getD 12 undef) w' := hD 10 _ _ rfl (by simp) rfl
      have XF7 := Lib.hid hbg
      have QF7 := Lib.hid hsl
      have HF := Lib.hid hF
      have HU := Lib.hid (((Upd.refl (fun _ => False) w6).drew).trans hF.upd (fun _ h => h.elim))
      clear hbg hF hsl hD
      simp at ho
      subst ho
      unfold Oper.wp
      go_simp
      rename_i hK1
      refine hK1 _ _ ?_
      clear hK1
      rw [HF.out.act [false, false, false, false, false, false, false, false, false, false, false, false, true, true, false, false, false, false, false, false, false, false, false, false, false, false, false, false, false, false, false, false, false, false, false, false, false, true, true, true, true, true, true, true, true, true, true, false, false, false, false, false, false, false, false, false, false, false, false, false, false, false, false, false, false, false, false, false, false, false, false, false, false, false, false, false, false, false, false, false, false, false, false, false, false, false, false, false, false, false, false, false, false, false, false, false, false, false, false, false, false, false, false, false, false, false, false, false, false, false] (by kernel_rfl)]
      simp only [pickv, Nat.reduceAdd, Nat.zero_add, e6, f9_, Act.put, List.setIfInBounds_toArray, List.set_cons_zero, List.set_cons_succ]
      clear e6 f9_ HF
      generalize a.tmps.getD 38 undef = u38
      generalize a.tmps.getD 39 undef = u39
      generalize a.tmps.getD 40 undef = u40
      generalize a.tmps.getD 41 undef = u41
      generalize a.tmps.getD 42 undef = u42
      generalize a.tmps.getD 43 undef = u43
      generalize a.tmps.getD 44 undef = u44
      generalize a.tmps.getD 37 undef = u37
      generalize a.tmps.getD 45 undef = u45
      have BC7 := Lib.hid (BC6.out.upd HU.out (fun h => h))
      have AR7 := Lib.hid (AR6.out.upd HU.out (fun h => h))
      have XA7 := Lib.hid (XA6.out.upd HU.out (fun h => h))
      have XB7 := Lib.hid (XB6.out.upd HU.out (fun h => h))
      have HA7 := Lib.hid (HA6.out.upd0 HU.out)
      have HS7 := Lib.hid (HS6.out.upd0 HU.out)
      have QA7 := Lib.hid (QA6.out.upd0 HU.out)
      have U7 := Lib.hid (U6.out.trans HU.out (fun _ h => h.elim))
      generalize w' = w7 at XF7 QF7 BC7 AR7 XA7 XB7 HA7 HS7 QA7 U7 ⊢
      clear HU hg BC6 AR6 XA6 XB6 HA6 HS6 QA6 U6
      have BCc0 : w7.cell? ⟨w.heap.size, 0, none⟩ = some (.slice A n c) := BC7.out.cell 0
      have BCc1 : w7.cell? ⟨w.heap.size, 1, none⟩ = some (.slice M m d) := BC7.out.cell 1
      have BCc2 : w7.cell? ⟨w.heap.size, 2, none⟩ = some (.int .i64 st) := BC7.out.cell 2
      have BCc3 : w7.cell? ⟨w.heap.size, 3, none⟩ = some (.int .i64 sp) := BC7.out.cell 3
      have BCc4 : w7.cell? ⟨w.heap.size, 4, none⟩ = some (.int .i64 cs) := BC7.out.cell 4
      have BCc5 : w7.cell? ⟨w.heap.size, 5, none⟩ = some (.int .u64 sa) := BC7.out.cell 5
      have BCl : w.heap.size < w7.heap.size := BC7.out.lt
      have ARc0 : w7.cell? ⟨w.heap.size + 1, 0, none⟩ = some (.int .i64 p) := AR7.out.cell 0
      have ARc1 : w7.cell? ⟨w.heap.size + 1, 1, none⟩ = some (.int .i64 r) := AR7.out.cell 1
      have ARl : w.heap.size + 1 < w7.heap.size := AR7.out.lt
      have XAc0 : w7.cell? ⟨w4.heap.size, 0, none⟩ = some (.slice A n c) := XA7.out.cell 0
      have XAc1 : w7.cell? ⟨w4.heap.size, 1, none⟩ = some (.slice X1 m e1) := XA7.out.cell 1
      have XAc2 : w7.cell? ⟨w4.heap.size, 2, none⟩ = some (.int .i64 r1) := XA7.out.cell 2
      have XAc3 : w7.cell? ⟨w4.heap.size, 3, none⟩ = some (.int .i64 r2) := XA7.out.cell 3
      have XAc4 : w7.cell? ⟨w4.heap.size, 4, none⟩ = some (.int .i64 r3) := XA7.out.cell 4
      have XAc5 : w7.cell? ⟨w4.heap.size, 5, none⟩ = some (.int .u64 r4) := XA7.out.cell 5
      have XAl : w4.heap.size < w7.heap.size := XA7.out.lt
      have XBc0 : w7.cell? ⟨w5.heap.size, 0, none⟩ = some (.slice A n c) := XB7.out.cell 0
      have XBc1 : w7.cell? ⟨w5.heap.size, 1, none⟩ = some (.slice M m d) := XB7.out.cell 1
      have XBc2 : w7.cell? ⟨w5.heap.size, 2, none⟩ = some (.int .i64 r1) := XB7.out.cell 2
      have XBc3 : w7.cell? ⟨w5.heap.size, 3, none⟩ = some (.int .i64 r2) := XB7.out.cell 3
      have XBc4 : w7.cell? ⟨w5.heap.size, 4, none⟩ = some (.int .i64 r3) := XB7.out.cell 4
      have XBc5 : w7.cell? ⟨w5.heap.size, 5, none⟩ = some (.int .u64 r4) := XB7.out.cell 5
      have XBl : w5.heap.size < w7.heap.size := XB7.out.lt
      have XFc0 : w7.cell? ⟨gf, 0, none⟩ = some (.slice A n c) := XF7.out.cell 0
      have XFc1 : w7.cell? ⟨gf, 1, none⟩ = some (.slice X m e0) := XF7.out.cell 1
      have XFc2 : w7.cell? ⟨gf, 2, none⟩ = some (.int .i64 f1) := XF7.out.cell 2
      have XFc3 : w7.cell? ⟨gf, 3, none⟩ = some (.int .i64 f2) := XF7.out.cell 3
      have XFc4 : w7.cell? ⟨gf, 4, none⟩ = some (.int .i64 f3) := XF7.out.cell 4
      have XFc5 : w7.cell? ⟨gf, 5, none⟩ = some (.int .u64 f4) := XF7.out.cell 5
      have XFl : gf < w7.heap.size := XF7.out.lt
      go_wp2_with fail
      clear BCc0 BCc1 BCc2 BCc3 BCc4 BCc5 BCl ARc0 ARc1 ARl XAc0 XAc1 XAc2 XAc3 XAc4 XAc5 XAl XBc0 XBc1 XBc2 XBc3 XBc4 XBc5 XBl XFc0 XFc1 XFc2 XFc3 XFc4 XFc5 XFl
      refine (rfail_any A M n c m d st sp cs sa p r HFL.out _).mono ?_
      rintro e w8 ⟨rfl, hd⟩
      have hu := Upd.of_below hd (fun _ => False)
      have BC8 := Lib.hid (BC7.out.upd hu (fun h => h))
      have AR8 := Lib.hid (AR7.out.upd hu (fun h => h))
      have XA8 := Lib.hid (XA7.out.upd hu (fun h => h))
      have XB8 := Lib.hid (XB7.out.upd hu (fun h => h))
      have XF8 := Lib.hid (XF7.out.upd hu (fun h => h))
      have HA8 := Lib.hid (HA7.out.upd0 hu)
      have HS8 := Lib.hid (HS7.out.upd0 hu)
      have QA8 := Lib.hid (QA7.out.upd0 hu)
      have QF8 := Lib.hid (QF7.out.upd0 hu)
      have U8 := Lib.hid (U7.out.trans hu (fun _ h => h.elim))
      clear hd hu BC7 AR7 XA7 XB7 XF7 HA7 HS7 QA7 QF7 U7
      have BCc0 : w8.cell? ⟨w.heap.size, 0, none⟩ = some (.slice A n c) := BC8.out.cell 0
      have BCc1 : w8.cell? ⟨w.heap.size, 1, none⟩ = some (.slice M m d) := BC8.out.cell 1
      have BCc2 : w8.cell? ⟨w.heap.size, 2, none⟩ = some (.int .i64 st) := BC8.out.cell 2
      have BCc3 : w8.cell? ⟨w.heap.size, 3, none⟩ = some (.int .i64 sp) := BC8.out.cell 3
      have BCc4 : w8.cell? ⟨w.heap.size, 4, none⟩ = some (.int .i64 cs) := BC8.out.cell 4
      have BCc5 : w8.cell? ⟨w.heap.size, 5, none⟩ = some (.int .u64 sa) := BC8.out.cell 5
      have BCl : w.heap.size < w8.heap.size := BC8.out.lt
      have ARc0 : w8.cell? ⟨w.heap.size + 1, 0, none⟩ = some (.int .i64 p) := AR8.out.cell 0
      have ARc1 : w8.cell? ⟨w.heap.size + 1, 1, none⟩ = some (.int .i64 r) := AR8.out.cell 1
      have ARl : w.heap.size + 1 < w8.heap.size := AR8.out.lt
      have XAc0 : w8.cell? ⟨w4.heap.size, 0, none⟩ = some (.slice A n c) := XA8.out.cell 0
      have XAc1 : w8.cell? ⟨w4.heap.size, 1, none⟩ = some (.slice X1 m e1) := XA8.out.cell 1
      have XAc2 : w8.cell? ⟨w4.heap.size, 2, none⟩ = some (.int .i64 r1) := XA8.out.cell 2
      have XAc3 : w8.cell? ⟨w4.heap.size, 3, none⟩ = some (.int .i64 r2) := XA8.out.cell 3
      have XAc4 : w8.cell? ⟨w4.heap.size, 4, none⟩ = some (.int .i64 r3) := XA8.out.cell 4
      have XAc5 : w8.cell? ⟨w4.heap.size, 5, none⟩ = some (.int .u64 r4) := XA8.out.cell 5
      have XAl : w4.heap.size < w8.heap.size := XA8.out.lt
      have XBc0 : w8.cell? ⟨w5.heap.size, 0, none⟩ = some (.slice A n c) := XB8.out.cell 0
      have XBc1 : w8.cell? ⟨w5.heap.size, 1, none⟩ = some (.slice M m d) := XB8.out.cell 1
      have XBc2 : w8.cell? ⟨w5.heap.size, 2, none⟩ = some (.int .i64 r1) := XB8.out.cell 2
      have XBc3 : w8.cell? ⟨w5.heap.size, 3, none⟩ = some (.int .i64 r2) := XB8.out.cell 3
      have XBc4 : w8.cell? ⟨w5.heap.size, 4, none⟩ = some (.int .i64 r3) := XB8.out.cell 4
      have XBc5 : w8.cell? ⟨w5.heap.size, 5, none⟩ = some (.int .u64 r4) := XB8.out.cell 5
      have XBl : w5.heap.size < w8.heap.size := XB8.out.lt
      have XFc0 : w8.cell? ⟨gf, 0, none⟩ = some (.slice A n c) := XF8.out.cell 0
      have XFc1 : w8.cell? ⟨gf, 1, none⟩ = some (.slice X m e0) := XF8.out.cell 1
      have XFc2 : w8.cell? ⟨gf, 2, none⟩ = some (.int .i64 f1) := XF8.out.cell 2
      have XFc3 : w8.cell? ⟨gf, 3, none⟩ = some (.int .i64 f2) := XF8.out.cell 3
      have XFc4 : w8.cell? ⟨gf, 4, none⟩ = some (.int .i64 f3) := XF8.out.cell 4
      have XFc5 : w8.cell? ⟨gf, 5, none⟩ = some (.int .u64 f4) := XF8.out.cell 5
      have XFl : gf < w8.heap.size := XF8.out.lt
      go_wp2_with fail
      clear BCc0 BCc1 BCc2 BCc3 BCc4 BCc5 BCl ARc0 ARc1 ARl XAc0 XAc1 XAc2 XAc3 XAc4 XAc5 XAl XBc0 XBc1 XBc2 XBc3 XBc4 XBc5 XBl XFc0 XFc1 XFc2 XFc3 XFc4 XFc5 XFl
      refine (cmade_any A M n c m d st sp cs sa ms HM.out (by omega) _ (HS8.out.alloc _)).mono ?_
      rintro e w9 ⟨X2, e2, rfl, qQE, hd⟩
      have hu := Upd.of_below hd (fun _ => False)
      have BC9 := Lib.hid ((BC8.out.alloc _).upd hu (fun h => h))
      have AR9 := Lib.hid ((AR8.out.alloc _).upd hu (fun h => h))
      have XA9 := Lib.hid ((XA8.out.alloc _).upd hu (fun h => h))
      have XB9 := Lib.hid ((XB8.out.alloc _).upd hu (fun h => h))
      have XF9 := Lib.hid ((XF8.out.alloc _).upd hu (fun h => h))
      have HA9 := Lib.hid ((HA8.out.alloc _).upd0 hu)
      have HS9 := Lib.hid ((HS8.out.alloc _).upd0 hu)
      have QA9 := Lib.hid ((QA8.out.alloc _).upd0 hu)
      have QF9 := Lib.hid ((QF8.out.alloc _).upd0 hu)
      have U9 := Lib.hid ((U8.out.alloc _).trans hu (fun _ h => h.elim))
      have XG9 := Lib.hid ((Blk.new w8 #[.slice A n c, .slice M m d, .int .i64 f1, .int .i64 f2, .int .i64 f3, .int .u64 f4] 28).upd hu (fun h => h))
      clear hd hu BC8 AR8 XA8 XB8 XF8 HA8 HS8 QA8 QF8 U8
      have QE9 := Lib.hid qQE
      clear qQE
      have BCc0 : w9.cell? ⟨w.heap.size, 0, none⟩ = some (.slice A n c) := BC9.out.cell 0
      have BCc1 : w9.cell? ⟨w.heap.size, 1, none⟩ = some (.slice M m d) := BC9.out.cell 1
      have BCc2 : w9.cell? ⟨w.heap.size, 2, none⟩ = some (.int .i64 st) := BC9.out.cell 2
      have BCc3 : w9.cell? ⟨w.heap.size, 3, none⟩ = some (.int .i64 sp) := BC9.out.cell 3
      have BCc4 : w9.cell? ⟨w.heap.size, 4, none⟩ = some (.int .i64 cs) := BC9.out.cell 4
      have BCc5 : w9.cell? ⟨w.heap.size, 5, none⟩ = some (.int .u64 sa) := BC9.out.cell 5
      have BCl : w.heap.size < w9.heap.size := BC9.out.lt
      have ARc0 : w9.cell? ⟨w.heap.size + 1, 0, none⟩ = some (.int .i64 p) := AR9.out.cell 0
      have ARc1 : w9.cell? ⟨w.heap.size + 1, 1, none⟩ = some (.int .i64 r) := AR9.out.cell 1
      have ARl : w.heap.size + 1 < w9.heap.size := AR9.out.lt
      have XAc0 : w9.cell? ⟨w4.heap.size, 0, none⟩ = some (.slice A n c) := XA9.out.cell 0
      have XAc1 : w9.cell? ⟨w4.heap.size, 1, none⟩ = some (.slice X1 m e1) := XA9.out.cell 1
      have XAc2 : w9.cell? ⟨w4.heap.size, 2, none⟩ = some (.int .i64 r1) := XA9.out.cell 2
      have XAc3 : w9.cell? ⟨w4.heap.size, 3, none⟩ = some (.int .i64 r2) := XA9.out.cell 3
      have XAc4 : w9.cell? ⟨w4.heap.size, 4, none⟩ = some (.int .i64 r3) := XA9.out.cell 4
      have XAc5 : w9.cell? ⟨w4.heap.size, 5, none⟩ = some (.int .u64 r4) := XA9.out.cell 5
      have XAl : w4.heap.size < w9.heap.size := XA9.out.lt
      have XBc0 : w9.cell? ⟨w5.heap.size, 0, none⟩ = some (.slice A n c) := XB9.out.cell 0
      have XBc1 : w9.cell? ⟨w5.heap.size, 1, none⟩ = some (.slice M m d) := XB9.out.cell 1
      have XBc2 : w9.cell? ⟨w5.heap.size, 2, none⟩ = some (.int .i64 r1) := XB9.out.cell 2
      have XBc3 : w9.cell? ⟨w5.heap.size, 3, none⟩ = some (.int .i64 r2) := XB9.out.cell 3
      have XBc4 : w9.cell? ⟨w5.heap.size, 4, none⟩ = some (.int .i64 r3) := XB9.out.cell 4
      have XBc5 : w9.cell? ⟨w5.heap.size, 5, none⟩ = some (.int .u64 r4) := XB9.out.cell 5
      have XBl : w5.heap.size < w9.heap.size := XB9.out.lt
      have XFc0 : w9.cell? ⟨gf, 0, none⟩ = some (.slice A n c) := XF9.out.cell 0
      have XFc1 : w9.cell? ⟨gf, 1, none⟩ = some (.slice X m e0) := XF9.out.cell 1
      have XFc2 : w9.cell? ⟨gf, 2, none⟩ = some (.int .i64 f1) := XF9.out.cell 2
      have XFc3 : w9.cell? ⟨gf, 3, none⟩ = some (.int .i64 f2) := XF9.out.cell 3
      have XFc4 : w9.cell? ⟨gf, 4, none⟩ = some (.int .i64 f3) := XF9.out.cell 4
      have XFc5 : w9.cell? ⟨gf, 5, none⟩ = some (.int .u64 f4) := XF9.out.cell 5
      have XFl : gf < w9.heap.size := XF9.out.lt
      have XGc0 : w9.cell? ⟨w8.heap.size, 0, none⟩ = some (.slice A n c) := XG9.out.cell 0
      have XGc1 : w9.cell? ⟨w8.heap.size, 1, none⟩ = some (.slice M m d) := XG9.out.cell 1
      have XGc2 : w9.cell? ⟨w8.heap.size, 2, none⟩ = some (.int .i64 f1) := XG9.out.cell 2
      have XGc3 : w9.cell? ⟨w8.heap.size, 3, none⟩ = some (.int .i64 f2) := XG9.out.cell 3
      have XGc4 : w9.cell? ⟨w8.heap.size, 4, none⟩ = some (.int .i64 f3) := XG9.out.cell 4
      have XGc5 : w9.cell? ⟨w8.heap.size, 5, none⟩ = some (.int .u64 f4) := XG9.out.cell 5
      have XGl : w8.heap.size < w9.heap.size := XG9.out.lt
      go_wp2_with fail
      clear BCc0 BCc1 BCc2 BCc3 BCc4 BCc5 BCl ARc0 ARc1 ARl XAc0 XAc1 XAc2 XAc3 XAc4 XAc5 XAl XBc0 XBc1 XBc2 XBc3 XBc4 XBc5 XBl XFc0 XFc1 XFc2 XFc3 XFc4 XFc5 XFl XGc0 XGc1 XGc2 XGc3 XGc4 XGc5 XGl
      refine (end_any A X2 n c m e2 st sp cs sa HEN.out _).mono ?_
      rintro e w10 ⟨rfl, hd⟩
      have hu := Upd.of_below hd (fun _ => False)
      have BC10 := Lib.hid (BC9.out.upd hu (fun h => h))
      have AR10 := Lib.hid (AR9.out.upd hu (fun h => h))
      have XA10 := Lib.hid (XA9.out.upd hu (fun h => h))
      have XB10 := Lib.hid (XB9.out.upd hu (fun h => h))
      have XF10 := Lib.hid (XF9.out.upd hu (fun h => h))
      have XG10 := Lib.hid (XG9.out.upd hu (fun h => h))
      have HA10 := Lib.hid (HA9.out.upd0 hu)
      have HS10 := Lib.hid (HS9.out.upd0 hu)
      have QA10 := Lib.hid (QA9.out.upd0 hu)
      have QF10 := Lib.hid (QF9.out.upd0 hu)
      have QE10 := Lib.hid (QE9.out.upd0 hu)
      have U10 := Lib.hid (U9.out.trans hu (fun _ h => h.elim))
      clear hd hu BC9 AR9 XA9 XB9 XF9 XG9 HA9 HS9 QA9 QF9 QE9 U9
      have BCc0 : w10.cell? ⟨w.heap.size, 0, none⟩ = some (.slice A n c) := BC10.out.cell 0
      have BCc1 : w10.cell? ⟨w.heap.size, 1, none⟩ = some (.slice M m d) := BC10.out.cell 1
      have BCc2 : w10.cell? ⟨w.heap.size, 2, none⟩ = some (.int .i64 st) := BC10.out.cell 2
      have BCc3 : w10.cell? ⟨w.heap.size, 3, none⟩ = some (.int .i64 sp) := BC10.out.cell 3
      have BCc4 : w10.cell? ⟨w.heap.size, 4, none⟩ = some (.int .i64 cs) := BC10.out.cell 4
      have BCc5 : w10.cell? ⟨w.heap.size, 5, none⟩ = some (.int .u64 sa) := BC10.out.cell 5
      have BCl : w.heap.size < w10.heap.size := BC10.out.lt
      have ARc0 : w10.cell? ⟨w.heap.size + 1, 0, none⟩ = some (.int .i64 p) := AR10.out.cell 0
      have ARc1 : w10.cell? ⟨w.heap.size + 1, 1, none⟩ = some (.int .i64 r) := AR10.out.cell 1
      have ARl : w.heap.size + 1 < w10.heap.size := AR10.out.lt
      have XAc0 : w10.cell? ⟨w4.heap.size, 0, none⟩ = some (.slice A n c) := XA10.out.cell 0
      have XAc1 : w10.cell? ⟨w4.heap.size, 1, none⟩ = some (.slice X1 m e1) := XA10.out.cell 1
      have XAc2 : w10.cell? ⟨w4.heap.size, 2, none⟩ = some (.int .i64 r1) := XA10.out.cell 2
      have XAc3 : w10.cell? ⟨w4.heap.size, 3, none⟩ = some (.int .i64 r2) := XA10.out.cell 3
      have XAc4 : w10.cell? ⟨w4.heap.size, 4, none⟩ = some (.int .i64 r3) := XA10.out.cell 4
      have XAc5 : w10.cell? ⟨w4.heap.size, 5, none⟩ = some (.int .u64 r4) := XA10.out.cell 5
      have XAl : w4.heap.size < w10.heap.size := XA10.out.lt
      have XBc0 : w10.cell? ⟨w5.heap.size, 0, none⟩ = some (.slice A n c) := XB10.out.cell 0
      have XBc1 : w10.cell? ⟨w5.heap.size, 1, none⟩ = some (.slice M m d) := XB10.out.cell 1
      have XBc2 : w10.cell? ⟨w5.heap.size, 2, none⟩ = some (.int .i64 r1) := XB10.out.cell 2
      have XBc3 : w10.cell? ⟨w5.heap.size, 3, none⟩ = some (.int .i64 r2) := XB10.out.cell 3
      have XBc4 : w10.cell? ⟨w5.heap.size, 4, none⟩ = some (.int .i64 r3) := XB10.out.cell 4
      have XBc5 : w10.cell? ⟨w5.heap.size, 5, none⟩ = some (.int .u64 r4) := XB10.out.cell 5
      have XBl : w5.heap.size < w10.heap.size := XB10.out.lt
      have XFc0 : w10.cell? ⟨gf, 0, none⟩ = some (.slice A n c) := XF10.out.cell 0
      have XFc1 : w10.cell? ⟨gf, 1, none⟩ = some (.slice X m e0) := XF10.out.cell 1
      have XFc2 : w10.cell? ⟨gf, 2, none⟩ = some (.int .i64 f1) := XF10.out.cell 2
      have XFc3 : w10.cell? ⟨gf, 3, none⟩ = some (.int .i64 f2) := XF10.out.cell 3
      have XFc4 : w10.cell? ⟨gf, 4, none⟩ = some (.int .i64 f3) := XF10.out.cell 4
      have XFc5 : w10.cell? ⟨gf, 5, none⟩ = some (.int .u64 f4) := XF10.out.cell 5
      have XFl : gf < w10.heap.size := XF10.out.lt
      have XGc0 : w10.cell? ⟨w8.heap.size, 0, none⟩ = some (.slice A n c) := XG10.out.cell 0
      have XGc1 : w10.cell? ⟨w8.heap.size, 1, none⟩ = some (.slice M m d) := XG10.out.cell 1
      have XGc2 : w10.cell? ⟨w8.heap.size, 2, none⟩ = some (.int .i64 f1) := XG10.out.cell 2
      have XGc3 : w10.cell? ⟨w8.heap.size, 3, none⟩ = some (.int .i64 f2) := XG10.out.cell 3
      have XGc4 : w10.cell? ⟨w8.heap.size, 4, none⟩ = some (.int .i64 f3) := XG10.out.cell 4
      have XGc5 : w10.cell? ⟨w8.heap.size, 5, none⟩ = some (.int .u64 f4) := XG10.out.cell 5
      have XGl : w8.heap.size < w10.heap.size := XG10.out.lt
      go_wp2_with fail
      clear BCc0 BCc1 BCc2 BCc3 BCc4 BCc5 BCl ARc0 ARc1 ARl XAc0 XAc1 XAc2 XAc3 XAc4 XAc5 XAl XBc0 XBc1 XBc2 XBc3 XBc4 XBc5 XBl XFc0 XFc1 XFc2 XFc3 XFc4 XFc5 XFl XGc0 XGc1 XGc2 XGc3 XGc4 XGc5 XGl
      refine (rend_any A M n c m d st sp cs sa HEN.out _).mono ?_
      rintro e w11 ⟨rfl, hd⟩
      have hu := Upd.of_below hd (fun _ => False)
      have BC11 := Lib.hid ((BC10.out.alloc _).upd hu (fun h => h))
      have AR11 := Lib.hid ((AR10.out.alloc _).upd hu (fun h => h))
      have XA11 := Lib.hid ((XA10.out.alloc _).upd hu (fun h => h))
      have XB11 := Lib.hid ((XB10.out.alloc _).upd hu (fun h => h))
      have XF11 := Lib.hid ((XF10.out.alloc _).upd hu (fun h => h))
      have XG11 := Lib.hid ((XG10.out.alloc _).upd hu (fun h => h))
      have HA11 := Lib.hid ((HA10.out.alloc _).upd0 hu)
      have HS11 := Lib.hid ((HS10.out.alloc _).upd0 hu)
      have QA11 := Lib.hid ((QA10.out.alloc _).upd0 hu)
      have QF11 := Lib.hid ((QF10.out.alloc _).upd0 hu)
      have QE11 := Lib.hid ((QE10.out.alloc _).upd0 hu)
      have U11 := Lib.hid ((U10.out.alloc _).trans hu (fun _ h => h.elim))
      have XE11 := Lib.hid ((Blk.new w10 #[.slice A n c, .slice X2 m e2, .int .i64 g1, .int .i64 g2, .int .i64 g3, .int .u64 g4] 38).upd hu (fun h => h))
      clear hd hu BC10 AR10 XA10 XB10 XF10 XG10 HA10 HS10 QA10 QF10 QE10 U10
      have BCc0 : w11.cell? ⟨w.heap.size, 0, none⟩ = some (.slice A n c) := BC11.out.cell 0
      have BCc1 : w11.cell? ⟨w.heap.size, 1, none⟩ = some (.slice M m d) := BC11.out.cell 1
      have BCc2 : w11.cell? ⟨w.heap.size, 2, none⟩ = some (.int .i64 st) := BC11.out.cell 2
      have BCc3 : w11.cell? ⟨w.heap.size, 3, none⟩ = some (.int .i64 sp) := BC11.out.cell 3
      have BCc4 : w11.cell? ⟨w.heap.size, 4, none⟩ = some (.int .i64 cs) := BC11.out.cell 4
      have BCc5 : w11.cell? ⟨w.heap.size, 5, none⟩ = some (.int .u64 sa) := BC11.out.cell 5
      have BCl : w.heap.size < w11.heap.size := BC11.out.lt
      have ARc0 : w11.cell? ⟨w.heap.size + 1, 0, none⟩ = some (.int .i64 p) := AR11.out.cell 0
      have ARc1 : w11.cell? ⟨w.heap.size + 1, 1, none⟩ = some (.int .i64 r) := AR11.out.cell 1
      have ARl : w.heap.size + 1 < w11.heap.size := AR11.out.lt
      have XAc0 : w11.cell? ⟨w4.heap.size, 0, none⟩ = some (.slice A n c) := XA11.out.cell 0
      have XAc1 : w11.cell? ⟨w4.heap.size, 1, none⟩ = some (.slice X1 m e1) := XA11.out.cell 1
      have XAc2 : w11.cell? ⟨w4.heap.size, 2, none⟩ = some (.int .i64 r1) := XA11.out.cell 2
      have XAc3 : w11.cell? ⟨w4.heap.size, 3, none⟩ = some (.int .i64 r2) := XA11.out.cell 3
      have XAc4 : w11.cell? ⟨w4.heap.size, 4, none⟩ = some (.int .i64 r3) := XA11.out.cell 4
      have XAc5 : w11.cell? ⟨w4.heap.size, 5, none⟩ = some (.int .u64 r4) := XA11.out.cell 5
      have XAl : w4.heap.size < w11.heap.size := XA11.out.lt
      have XBc0 : w11.cell? ⟨w5.heap.size, 0, none⟩ = some (.slice A n c) := XB11.out.cell 0
      have XBc1 : w11.cell? ⟨w5.heap.size, 1, none⟩ = some (.slice M m d) := XB11.out.cell 1
      have XBc2 : w11.cell? ⟨w5.heap.size, 2, none⟩ = some (.int .i64 r1) := XB11.out.cell 2
      have XBc3 : w11.cell? ⟨w5.heap.size, 3, none⟩ = some (.int .i64 r2) := XB11.out.cell 3
      have XBc4 : w11.cell? ⟨w5.heap.size, 4, none⟩ = some (.int .i64 r3) := XB11.out.cell 4
      have XBc5 : w11.cell? ⟨w5.heap.size, 5, none⟩ = some (.int .u64 r4) := XB11.out.cell 5
      have XBl : w5.heap.size < w11.heap.size := XB11.out.lt
      have XFc0 : w11.cell? ⟨gf, 0, none⟩ = some (.slice A n c) := XF11.out.cell 0
      have XFc1 : w11.cell? ⟨gf, 1, none⟩ = some (.slice X m e0) := XF11.out.cell 1
      have XFc2 : w11.cell? ⟨gf, 2, none⟩ = some (.int .i64 f1) := XF11.out.cell 2
      have XFc3 : w11.cell? ⟨gf, 3, none⟩ = some (.int .i64 f2) := XF11.out.cell 3
      have XFc4 : w11.cell? ⟨gf, 4, none⟩ = some (.int .i64 f3) := XF11.out.cell 4
      have XFc5 : w11.cell? ⟨gf, 5, none⟩ = some (.int .u64 f4) := XF11.out.cell 5
      have XFl : gf < w11.heap.size := XF11.out.lt
      have XGc0 : w11.cell? ⟨w8.heap.size, 0, none⟩ = some (.slice A n c) := XG11.out.cell 0
      have XGc1 : w11.cell? ⟨w8.heap.size, 1, none⟩ = some (.slice M m d) := XG11.out.cell 1
      have XGc2 : w11.cell? ⟨w8.heap.size, 2, none⟩ = some (.int .i64 f1) := XG11.out.cell 2
      have XGc3 : w11.cell? ⟨w8.heap.size, 3, none⟩ = some (.int .i64 f2) := XG11.out.cell 3
      have XGc4 : w11.cell? ⟨w8.heap.size, 4, none⟩ = some (.int .i64 f3) := XG11.out.cell 4
      have XGc5 : w11.cell? ⟨w8.heap.size, 5, none⟩ = some (.int .u64 f4) := XG11.out.cell 5
      have XGl : w8.heap.size < w11.heap.size := XG11.out.lt
      have XEc0 : w11.cell? ⟨w10.heap.size, 0, none⟩ = some (.slice A n c) := XE11.out.cell 0
      have XEc1 : w11.cell? ⟨w10.heap.size, 1, none⟩ = some (.slice X2 m e2) := XE11.out.cell 1
      have XEc2 : w11.cell? ⟨w10.heap.size, 2, none⟩ = some (.int .i64 g1) := XE11.out.cell 2
      have XEc3 : w11.cell? ⟨w10.heap.size, 3, none⟩ = some (.int .i64 g2) := XE11.out.cell 3
      have XEc4 : w11.cell? ⟨w10.heap.size, 4, none⟩ = some (.int .i64 g3) := XE11.out.cell 4
      have XEc5 : w11.cell? ⟨w10.heap.size, 5, none⟩ = some (.int .u64 g4) := XE11.out.cell 5
      have XEl : w10.heap.size < w11.heap.size := XE11.out.lt
      go_wp2_with fail
      clear BCc0 BCc1 BCc2 BCc3 BCc4 BCc5 BCl ARc0 ARc1 ARl XAc0 XAc1 XAc2 XAc3 XAc4 XAc5 XAl XBc0 XBc1 XBc2 XBc3 XBc4 XBc5 XBl XFc0 XFc1 XFc2 XFc3 XFc4 XFc5 XFl XGc0 XGc1 XGc2 XGc3 XGc4 XGc5 XGl XEc0 XEc1 XEc2 XEc3 XEc4 XEc5 XEl
      refine Code.gen (fun W => Blk W (w.heap.size) 28 #[.slice A n c, .slice M m d, .int .i64 st, .int .i64 sp, .int .i64 cs, .int .u64 sa] ∧ Blk W (w4.heap.size) 38 #[.slice A n c, .slice X1 m e1, .int .i64 r1, .int .i64 r2, .int .i64 r3, .int .u64 r4] ∧ Blk W (w5.heap.size) 28 #[.slice A n c, .slice M m d, .int .i64 r1, .int .i64 r2, .int .i64 r3, .int .u64 r4] ∧ Blk W (gf) 38 #[.slice A n c, .slice X m e0, .int .i64 f1, .int .i64 f2, .int .i64 f3, .int .u64 f4] ∧ Blk W (w8.heap.size) 28 #[.slice A n c, .slice M m d, .int .i64 f1, .int .i64 f2, .int .i64 f3, .int .u64 f4] ∧ Blk W (w10.heap.size) 38 #[.slice A n c, .slice X2 m e2, .int .i64 g1, .int .i64 g2, .int .i64 g3, .int .u64 g4] ∧ Blk W (w11.heap.size) 28 #[.slice A n c, .slice M m d, .int .i64 g1, .int .i64 g2, .int .i64 g3, .int .u64 g4] ∧ Sl W A n c (nums xs) ∧ Sl W M m d (prs ms) ∧ Sl W X1 m e1 (prs ms) ∧ Sl W X m e0 (prs ms) ∧ Sl W X2 m e2 (prs ms) ∧ Upd (fun _ => False) w W) ⟨(BC11.out.alloc _), (XA11.out.alloc _), (XB11.out.alloc _), (XF11.out.alloc _), (XG11.out.alloc _), (XE11.out.alloc _), (Blk.new w11 #[.slice A n c, .slice M m d, .int .i64 g1, .int .i64 g2, .int .i64 g3, .int .u64 g4] 28), (HA11.out.alloc _), (HS11.out.alloc _), (QA11.out.alloc _), (QF11.out.alloc _), (QE11.out.alloc _), (U11.out.alloc _)⟩ ?_
      rintro w12 ⟨qBC, qXA, qXB, qXF, qXG, qXE, qXI, qHA, qHS, qQA, qQF, qQE, qU⟩
      have BC12 := Lib.hid qBC
      have XA12 := Lib.hid qXA
      have XB12 := Lib.hid qXB
      have XF12 := Lib.hid qXF
      have XG12 := Lib.hid qXG
      have XE12 := Lib.hid qXE
      have XI12 := Lib.hid qXI
      have HA12 := Lib.hid qHA
      have HS12 := Lib.hid qHS
      have QA12 := Lib.hid qQA
      have QF12 := Lib.hid qQF
      have QE12 := Lib.hid qQE
      have U12 := Lib.hid qU
      clear qBC qXA qXB qXF qXG qXE qXI qHA qHS qQA qQF qQE qU BC11 XA11 XB11 XF11 XG11 XE11 HA11 HS11 QA11 QF11 QE11 U11
      have BCc0 : w12.cell? ⟨w.heap.size, 0, none⟩ = some (.slice A n c) := BC12.out.cell 0
      have BCc1 : w12.cell? ⟨w.heap.size, 1, none⟩ = some (.slice M m d) := BC12.out.cell 1
      have BCc2 : w12.cell? ⟨w.heap.size, 2, none⟩ = some (.int .i64 st) := BC12.out.cell 2
      have BCc3 : w12.cell? ⟨w.heap.size, 3, none⟩ = some (.int .i64 sp) := BC12.out.cell 3
      have BCc4 : w12.cell? ⟨w.heap.size, 4, none⟩ = some (.int .i64 cs) := BC12.out.cell 4
      have BCc5 : w12.cell? ⟨w.heap.size, 5, none⟩ = some (.int .u64 sa) := BC12.out.cell 5
      have BCl : w.heap.size < w12.heap.size := BC12.out.lt
      have XAc0 : w12.cell? ⟨w4.heap.size, 0, none⟩ = some (.slice A n c) := XA12.out.cell 0
      have XAc1 : w12.cell? ⟨w4.heap.size, 1, none⟩ = some (.slice X1 m e1) := XA12.out.cell 1
      have XAc2 : w12.cell? ⟨w4.heap.size, 2, none⟩ = some (.int .i64 r1) := XA12.out.cell 2
      have XAc3 : w12.cell? ⟨w4.heap.size, 3, none⟩ = some (.int .i64 r2) := XA12.out.cell 3
      have XAc4 : w12.cell? ⟨w4.heap.size, 4, none⟩ = some (.int .i64 r3) := XA12.out.cell 4
      have XAc5 : w12.cell? ⟨w4.heap.size, 5, none⟩ = some (.int .u64 r4) := XA12.out.cell 5
      have XAl : w4.heap.size < w12.heap.size := XA12.out.lt
      have XBc0 : w12.cell? ⟨w5.heap.size, 0, none⟩ = some (.slice A n c) := XB12.out.cell 0
      have XBc1 : w12.cell? ⟨w5.heap.size, 1, none⟩ = some (.slice M m d) := XB12.out.cell 1
      have XBc2 : w12.cell? ⟨w5.heap.size, 2, none⟩ = some (.int .i64 r1) := XB12.out.cell 2
      have XBc3 : w12.cell? ⟨w5.heap.size, 3, none⟩ = some (.int .i64 r2) := XB12.out.cell 3
      have XBc4 : w12.cell? ⟨w5.heap.size, 4, none⟩ = some (.int .i64 r3) := XB12.out.cell 4
      have XBc5 : w12.cell? ⟨w5.heap.size, 5, none⟩ = some (.int .u64 r4) := XB12.out.cell 5
      have XBl : w5.heap.size < w12.heap.size := XB12.out.lt
      have XFc0 : w12.cell? ⟨gf, 0, none⟩ = some (.slice A n c) := XF12.out.cell 0
      have XFc1 : w12.cell? ⟨gf, 1, none⟩ = some (.slice X m e0) := XF12.out.cell 1
      have XFc2 : w12.cell? ⟨gf, 2, none⟩ = some (.int .i64 f1) := XF12.out.cell 2
      have XFc3 : w12.cell? ⟨gf, 3, none⟩ = some (.int .i64 f2) := XF12.out.cell 3
      have XFc4 : w12.cell? ⟨gf, 4, none⟩ = some (.int .i64 f3) := XF12.out.cell 4
      have XFc5 : w12.cell? ⟨gf, 5, none⟩ = some (.int .u64 f4) := XF12.out.cell 5
      have XFl : gf < w12.heap.size := XF12.out.lt
      have XGc0 : w12.cell? ⟨w8.heap.size, 0, none⟩ = some (.slice A n c) := XG12.out.cell 0
      have XGc1 : w12.cell? ⟨w8.heap.size, 1, none⟩ = some (.slice M m d) := XG12.out.cell 1
      have XGc2 : w12.cell? ⟨w8.heap.size, 2, none⟩ = some (.int .i64 f1) := XG12.out.cell 2
      have XGc3 : w12.cell? ⟨w8.heap.size, 3, none⟩ = some (.int .i64 f2) := XG12.out.cell 3
      have XGc4 : w12.cell? ⟨w8.heap.size, 4, none⟩ = some (.int .i64 f3) := XG12.out.cell 4
      have XGc5 : w12.cell? ⟨w8.heap.size, 5, none⟩ = some (.int .u64 f4) := XG12.out.cell 5
      have XGl : w8.heap.size < w12.heap.size := XG12.out.lt
      have XEc0 : w12.cell? ⟨w10.heap.size, 0, none⟩ = some (.slice A n c) := XE12.out.cell 0
      have XEc1 : w12.cell? ⟨w10.heap.size, 1, none⟩ = some (.slice X2 m e2) := XE12.out.cell 1
      have XEc2 : w12.cell? ⟨w10.heap.size, 2, none⟩ = some (.int .i64 g1) := XE12.out.cell 2
      have XEc3 : w12.cell? ⟨w10.heap.size, 3, none⟩ = some (.int .i64 g2) := XE12.out.cell 3
      have XEc4 : w12.cell? ⟨w10.heap.size, 4, none⟩ = some (.int .i64 g3) := XE12.out.cell 4
      have XEc5 : w12.cell? ⟨w10.heap.size, 5, none⟩ = some (.int .u64 g4) := XE12.out.cell 5
      have XEl : w10.heap.size < w12.heap.size := XE12.out.lt
      have XIc0 : w12.cell? ⟨w11.heap.size, 0, none⟩ = some (.slice A n c) := XI12.out.cell 0
      have XIc1 : w12.cell? ⟨w11.heap.size, 1, none⟩ = some (.slice M m d) := XI12.out.cell 1
      have XIc2 : w12.cell? ⟨w11.heap.size, 2, none⟩ = some (.int .i64 g1) := XI12.out.cell 2
      have XIc3 : w12.cell? ⟨w11.heap.size, 3, none⟩ = some (.int .i64 g2) := XI12.out.cell 3
      have XIc4 : w12.cell? ⟨w11.heap.size, 4, none⟩ = some (.int .i64 g3) := XI12.out.cell 4
      have XIc5 : w12.cell? ⟨w11.heap.size, 5, none⟩ = some (.int .u64 g4) := XI12.out.cell 5
      have XIl : w11.heap.size < w12.heap.size := XI12.out.lt
      have hfd := fun (X : Option Addr) (e : Nat) (W : World) => fieldB A X n c m e st sp cs sa W
      go_region_held3 (fun w' => w'.cell? ⟨w.heap.size, 0, none⟩ = some (.slice A n c) ∧ w'.cell? ⟨w.heap.size, 1, none⟩ = some (.slice M m d) ∧ w'.cell? ⟨w.heap.size, 2, none⟩ = some (.int .i64 st) ∧ w'.cell? ⟨w.heap.size, 3, none⟩ = some (.int .i64 sp) ∧ w'.cell? ⟨w.heap.size, 4, none⟩ = some (.int .i64 cs) ∧ w'.cell? ⟨w.heap.size, 5, none⟩ = some (.int .u64 sa) ∧ w'.cell? ⟨w4.heap.size, 0, none⟩ = some (.slice A n c) ∧ w'.cell? ⟨w4.heap.size, 1, none⟩ = some (.slice X1 m e1) ∧ w'.cell? ⟨w4.heap.size, 2, none⟩ = some (.int .i64 r1) ∧ w'.cell? ⟨w4.heap.size, 3, none⟩ = some (.int .i64 r2) ∧ w'.cell? ⟨w4.heap.size, 4, none⟩ = some (.int .i64 r3) ∧ w'.cell? ⟨w4.heap.size, 5, none⟩ = some (.int .u64 r4) ∧ w'.cell? ⟨w5.heap.size, 0, none⟩ = some (.slice A n c) ∧ w'.cell? ⟨w5.heap.size, 1, none⟩ = some (.slice M m d) ∧ w'.cell? ⟨w5.heap.size, 2, none⟩ = some (.int .i64 r1) ∧ w'.cell? ⟨w5.heap.size, 3, none⟩ = some (.int .i64 r2) ∧ w'.cell? ⟨w5.heap.size, 4, none⟩ = some (.int .i64 r3) ∧ w'.cell? ⟨w5.heap.size, 5, none⟩ = some (.int .u64 r4) ∧ w'.cell? ⟨gf, 0, none⟩ = some (.slice A n c) ∧ w'.cell? ⟨gf, 1, none⟩ = some (.slice X m e0) ∧ w'.cell? ⟨gf, 2, none⟩ = some (.int .i64 f1) ∧ w'.cell? ⟨gf, 3, none⟩ = some (.int .i64 f2) ∧ w'.cell? ⟨gf, 4, none⟩ = some (.int .i64 f3) ∧ w'.cell? ⟨gf, 5, none⟩ = some (.int .u64 f4) ∧ w'.cell? ⟨w8.heap.size, 0, none⟩ = some (.slice A n c) ∧ w'.cell? ⟨w8.heap.size, 1, none⟩ = some (.slice M m d) ∧ w'.cell? ⟨w8.heap.size, 2, none⟩ = some (.int .i64 f1) ∧ w'.cell? ⟨w8.heap.size, 3, none⟩ = some (.int .i64 f2) ∧ w'.cell? ⟨w8.heap.size, 4, none⟩ = some (.int .i64 f3) ∧ w'.cell? ⟨w8.heap.size, 5, none⟩ = some (.int .u64 f4) ∧ w'.cell? ⟨w10.heap.size, 0, none⟩ = some (.slice A n c) ∧ w'.cell? ⟨w10.heap.size, 1, none⟩ = some (.slice X2 m e2) ∧ w'.cell? ⟨w10.heap.size, 2, none⟩ = some (.int .i64 g1) ∧ w'.cell? ⟨w10.heap.size, 3, none⟩ = some (.int .i64 g2) ∧ w'.cell? ⟨w10.heap.size, 4, none⟩ = some (.int .i64 g3) ∧ w'.cell? ⟨w10.heap.size, 5, none⟩ = some (.int .u64 g4) ∧ w'.cell? ⟨w11.heap.size, 0, none⟩ = some (.slice A n c) ∧ w'.cell? ⟨w11.heap.size, 1, none⟩ = some (.slice M m d) ∧ w'.cell? ⟨w11.heap.size, 2, none⟩ = some (.int .i64 g1) ∧ w'.cell? ⟨w11.heap.size, 3, none⟩ = some (.int .i64 g2) ∧ w'.cell? ⟨w11.heap.size, 4, none⟩ = some (.int .i64 g3) ∧ w'.cell? ⟨w11.heap.size, 5, none⟩ = some (.int .u64 g4)) (go_keep) (first | (go_at_call 17; refine (csame_any 1 0 0 now HN.out HM.out (by omega) (by omega) _ HA18.out QZ18.out HA18.out HS18.out).mono ?_; rintro e w19 ⟨rfl, hd⟩; have hu := Upd.of_below hd (fun _ => False); have BC19 := Lib.hid (BC18.out.upd hu (fun h => h)); have XA19 := Lib.hid (XA18.out.upd hu (fun h => h)); have XB19 := Lib.hid (XB18.out.upd hu (fun h => h)); have XF19 := Lib.hid (XF18.out.upd hu (fun h => h)); have XG19 := Lib.hid (XG18.out.upd hu (fun h => h)); have XE19 := Lib.hid (XE18.out.upd hu (fun h => h)); have XI19 := Lib.hid (XI18.out.upd hu (fun h => h)); have HA19 := Lib.hid (HA18.out.upd0 hu); have HS19 := Lib.hid (HS18.out.upd0 hu); have QA19 := Lib.hid (QA18.out.upd0 hu); have QF19 := Lib.hid (QF18.out.upd0 hu); have QE19 := Lib.hid (QE18.out.upd0 hu); have QZ19 := Lib.hid (QZ18.out.upd0 hu); have U19 := Lib.hid (U18.out.trans hu (fun _ h => h.elim)); have BCd0_19 : w19.cell? ⟨w.heap.size, 0, none⟩ = some (.slice A n c) := BC19.out.cell 0; have BCd1_19 : w19.cell? ⟨w.heap.size, 1, none⟩ = some (.slice M m d) := BC19.out.cell 1; have BCd2_19 : w19.cell? ⟨w.heap.size, 2, none⟩ = some (.int .i64 st) := BC19.out.cell 2; have BCd3_19 : w19.cell? ⟨w.heap.size, 3, none⟩ = some (.int .i64 sp) := BC19.out.cell 3; have BCd4_19 : w19.cell? ⟨w.heap.size, 4, none⟩ = some (.int .i64 cs) := BC19.out.cell 4; have BCd5_19 : w19.cell? ⟨w.heap.size, 5, none⟩ = some (.int .u64 sa) := BC19.out.cell 5; have XAd0_19 : w19.cell? ⟨w4.heap.size, 0, none⟩ = some (.slice A n c) := XA19.out.cell 0; have XAd1_19 : w19.cell? ⟨w4.heap.size, 1, none⟩ = some (.slice X1 m e1) := XA19.out.cell 1; have XAd2_19 : w19.cell? ⟨w4.heap.size, 2, none⟩ = some (.int .i64 r1) := XA19.out.cell 2; have XAd3_19 : w19.cell? ⟨w4.heap.size, 3, none⟩ = some (.int .i64 r2) := XA19.out.cell 3; have XAd4_19 : w19.cell? ⟨w4.heap.size, 4, none⟩ = some (.int .i64 r3) := XA19.out.cell 4; have XAd5_19 : w19.cell? ⟨w4.heap.size, 5, none⟩ = some (.int .u64 r4) := XA19.out.cell 5; have XBd0_19 : w19.cell? ⟨w5.heap.size, 0, none⟩ = some (.slice A n c) := XB19.out.cell 0; have XBd1_19 : w19.cell? ⟨w5.heap.size, 1, none⟩ = some (.slice M m d) := XB19.out.cell 1; have XBd2_19 : w19.cell? ⟨w5.heap.size, 2, none⟩ = some (.int .i64 r1) := XB19.out.cell 2; have XBd3_19 : w19.cell? ⟨w5.heap.size, 3, none⟩ = some (.int .i64 r2) := XB19.out.cell 3; have XBd4_19 : w19.cell? ⟨w5.heap.size, 4, none⟩ = some (.int .i64 r3) := XB19.out.cell 4; have XBd5_19 : w19.cell? ⟨w5.heap.size, 5, none⟩ = some (.int .u64 r4) := XB19.out.cell 5; have XFd0_19 : w19.cell? ⟨gf, 0, none⟩ = some (.slice A n c) := XF19.out.cell 0; have XFd1_19 : w19.cell? ⟨gf, 1, none⟩ = some (.slice X m e0) := XF19.out.cell 1; have XFd2_19 : w19.cell? ⟨gf, 2, none⟩ = some (.int .i64 f1) := XF19.out.cell 2; have XFd3_19 : w19.cell? ⟨gf, 3, none⟩ = some (.int .i64 f2) := XF19.out.cell 3; have XFd4_19 : w19.cell? ⟨gf, 4, none⟩ = some (.int .i64 f3) := XF19.out.cell 4; have XFd5_19 : w19.cell? ⟨gf, 5, none⟩ = some (.int .u64 f4) := XF19.out.cell 5; have XGd0_19 : w19.cell? ⟨w8.heap.size, 0, none⟩ = some (.slice A n c) := XG19.out.cell 0; have XGd1_19 : w19.cell? ⟨w8.heap.size, 1, none⟩ = some (.slice M m d) := XG19.out.cell 1; have XGd2_19 : w19.cell? ⟨w8.heap.size, 2, none⟩ = some (.int .i64 f1) := XG19.out.cell 2; have XGd3_19 : w19.cell? ⟨w8.heap.size, 3, none⟩ = some (.int .i64 f2) := XG19.out.cell 3; have XGd4_19 : w19.cell? ⟨w8.heap.size, 4, none⟩ = some (.int .i64 f3) := XG19.out.cell 4; have XGd5_19 : w19.cell? ⟨w8.heap.size, 5, none⟩ = some (.int .u64 f4) := XG19.out.cell 5; have XEd0_19 : w19.cell? ⟨w10.heap.size, 0, none⟩ = some (.slice A n c) := XE19.out.cell 0; have XEd1_19 : w19.cell? ⟨w10.heap.size, 1, none⟩ = some (.slice X2 m e2) := XE19.out.cell 1; have XEd2_19 : w19.cell? ⟨w10.heap.size, 2, none⟩ = some (.int .i64 g1) := XE19.out.cell 2; have XEd3_19 : w19.cell? ⟨w10.heap.size, 3, none⟩ = some (.int .i64 g2) := XE19.out.cell 3; have XEd4_19 : w19.cell? ⟨w10.heap.size, 4, none⟩ = some (.int .i64 g3) := XE19.out.cell 4; have XEd5_19 : w19.cell? ⟨w10.heap.size, 5, none⟩ = some (.int .u64 g4) := XE19.out.cell 5; have XId0_19 : w19.cell? ⟨w11.heap.size, 0, none⟩ = some (.slice A n c) := XI19.out.cell 0; have XId1_19 : w19.cell? ⟨w11.heap.size, 1, none⟩ = some (.slice M m d) := XI19.out.cell 1; have XId2_19 : w19.cell? ⟨w11.heap.size, 2, none⟩ = some (.int .i64 g1) := XI19.out.cell 2; have XId3_19 : w19.cell? ⟨w11.heap.size, 3, none⟩ = some (.int .i64 g2) := XI19.out.cell 3; have XId4_19 : w19.cell? ⟨w11.heap.size, 4, none⟩ = some (.int .i64 g3) := XI19.out.cell 4; have XId5_19 : w19.cell? ⟨w11.heap.size, 5, none⟩ = some (.int .u64 g4) := XI19.out.cell 5; clear hd hu) | (go_at_call 23; refine (rbegin_any A M n c m d now _).mono ?_; rintro e w18 ⟨rfl, hd⟩; have hu := Upd.of_below hd (fun _ => False); have BC18 := Lib.hid (BC17.out.upd hu (fun h => h)); have XA18 := Lib.hid (XA17.out.upd hu (fun h => h)); have XB18 := Lib.hid (XB17.out.upd hu (fun h => h)); have XF18 := Lib.hid (XF17.out.upd hu (fun h => h)); have XG18 := Lib.hid (XG17.out.upd hu (fun h => h)); have XE18 := Lib.hid (XE17.out.upd hu (fun h => h)); have XI18 := Lib.hid (XI17.out.upd hu (fun h => h)); have HA18 := Lib.hid (HA17.out.upd0 hu); have HS18 := Lib.hid (HS17.out.upd0 hu); have QA18 := Lib.hid (QA17.out.upd0 hu); have QF18 := Lib.hid (QF17.out.upd0 hu); have QE18 := Lib.hid (QE17.out.upd0 hu); have QZ18 := Lib.hid (QZ17.out.upd0 hu); have U18 := Lib.hid (U17.out.trans hu (fun _ h => h.elim)); have BCd0_18 : w18.cell? ⟨w.heap.size, 0, none⟩ = some (.slice A n c) := BC18.out.cell 0; have BCd1_18 : w18.cell? ⟨w.heap.size, 1, none⟩ = some (.slice M m d) := BC18.out.cell 1; have BCd2_18 : w18.cell? ⟨w.heap.size, 2, none⟩ = some (.int .i64 st) := BC18.out.cell 2; have BCd3_18 : w18.cell? ⟨w.heap.size, 3, none⟩ = some (.int .i64 sp) := BC18.out.cell 3; have BCd4_18 : w18.cell? ⟨w.heap.size, 4, none⟩ = some (.int .i64 cs) := BC18.out.cell 4; have BCd5_18 : w18.cell? ⟨w.heap.size, 5, none⟩ = some (.int .u64 sa) := BC18.out.cell 5; have XAd0_18 : w18.cell? ⟨w4.heap.size, 0, none⟩ = some (.slice A n c) := XA18.out.cell 0; have XAd1_18 : w18.cell? ⟨w4.heap.size, 1, none⟩ = some (.slice X1 m e1) := XA18.out.cell 1; have XAd2_18 : w18.cell? ⟨w4.heap.size, 2, none⟩ = some (.int .i64 r1) := XA18.out.cell 2; have XAd3_18 : w18.cell? ⟨w4.heap.size, 3, none⟩ = some (.int .i64 r2) := XA18.out.cell 3; have XAd4_18 : w18.cell? ⟨w4.heap.size, 4, none⟩ = some (.int .i64 r3) := XA18.out.cell 4; have XAd5_18 : w18.cell? ⟨w4.heap.size, 5, none⟩ = some (.int .u64 r4) := XA18.out.cell 5; have XBd0_18 : w18.cell? ⟨w5.heap.size, 0, none⟩ = some (.slice A n c) := XB18.out.cell 0; have XBd1_18 : w18.cell? ⟨w5.heap.size, 1, none⟩ = some (.slice M m d) := XB18.out.cell 1; have XBd2_18 : w18.cell? ⟨w5.heap.size, 2, none⟩ = some (.int .i64 r1) := XB18.out.cell 2; have XBd3_18 : w18.cell? ⟨w5.heap.size, 3, none⟩ = some (.int .i64 r2) := XB18.out.cell 3; have XBd4_18 : w18.cell? ⟨w5.heap.size, 4, none⟩ = some (.int .i64 r3) := XB18.out.cell 4; have XBd5_18 : w18.cell? ⟨w5.heap.size, 5, none⟩ = some (.int .u64 r4) := XB18.out.cell 5; have XFd0_18 : w18.cell? ⟨gf, 0, none⟩ = some (.slice A n c) := XF18.out.cell 0; have XFd1_18 : w18.cell? ⟨gf, 1, none⟩ = some (.slice X m e0) := XF18.out.cell 1; have XFd2_18 : w18.cell? ⟨gf, 2, none⟩ = some (.int .i64 f1) := XF18.out.cell 2; have XFd3_18 : w18.cell? ⟨gf, 3, none⟩ = some (.int .i64 f2) := XF18.out.cell 3; have XFd4_18 : w18.cell? ⟨gf, 4, none⟩ = some (.int .i64 f3) := XF18.out.cell 4; have XFd5_18 : w18.cell? ⟨gf, 5, none⟩ = some (.int .u64 f4) := XF18.out.cell 5; have XGd0_18 : w18.cell? ⟨w8.heap.size, 0, none⟩ = some (.slice A n c) := XG18.out.cell 0; have XGd1_18 : w18.cell? ⟨w8.heap.size, 1, none⟩ = some (.slice M m d) := XG18.out.cell 1; have XGd2_18 : w18.cell? ⟨w8.heap.size, 2, none⟩ = some (.int .i64 f1) := XG18.out.cell 2; have XGd3_18 : w18.cell? ⟨w8.heap.size, 3, none⟩ = some (.int .i64 f2) := XG18.out.cell 3; have XGd4_18 : w18.cell? ⟨w8.heap.size, 4, none⟩ = some (.int .i64 f3) := XG18.out.cell 4; have XGd5_18 : w18.cell? ⟨w8.heap.size, 5, none⟩ = some (.int .u64 f4) := XG18.out.cell 5; have XEd0_18 : w18.cell? ⟨w10.heap.size, 0, none⟩ = some (.slice A n c) := XE18.out.cell 0; have XEd1_18 : w18.cell? ⟨w10.heap.size, 1, none⟩ = some (.slice X2 m e2) := XE18.out.cell 1; have XEd2_18 : w18.cell? ⟨w10.heap.size, 2, none⟩ = some (.int .i64 g1) := XE18.out.cell 2; have XEd3_18 : w18.cell? ⟨w10.heap.size, 3, none⟩ = some (.int .i64 g2) := XE18.out.cell 3; have XEd4_18 : w18.cell? ⟨w10.heap.size, 4, none⟩ = some (.int .i64 g3) := XE18.out.cell 4; have XEd5_18 : w18.cell? ⟨w10.heap.size, 5, none⟩ = some (.int .u64 g4) := XE18.out.cell 5; have XId0_18 : w18.cell? ⟨w11.heap.size, 0, none⟩ = some (.slice A n c) := XI18.out.cell 0; have XId1_18 : w18.cell? ⟨w11.heap.size, 1, none⟩ = some (.slice M m d) := XI18.out.cell 1; have XId2_18 : w18.cell? ⟨w11.heap.size, 2, none⟩ = some (.int .i64 g1) := XI18.out.cell 2; have XId3_18 : w18.cell? ⟨w11.heap.size, 3, none⟩ = some (.int .i64 g2) := XI18.out.cell 3; have XId4_18 : w18.cell? ⟨w11.heap.size, 4, none⟩ = some (.int .i64 g3) := XI18.out.cell 4; have XId5_18 : w18.cell? ⟨w11.heap.size, 5, none⟩ = some (.int .u64 g4) := XI18.out.cell 5; clear hd hu) | (go_at_call 15; refine (begin_any A X3 n c m e3 now _).mono ?_; rintro e w17 ⟨rfl, hd⟩; have hu := Upd.of_below hd (fun _ => False); have BC17 := Lib.hid (BC16.out.upd hu (fun h => h)); have XA17 := Lib.hid (XA16.out.upd hu (fun h => h)); have XB17 := Lib.hid (XB16.out.upd hu (fun h => h)); have XF17 := Lib.hid (XF16.out.upd hu (fun h => h)); have XG17 := Lib.hid (XG16.out.upd hu (fun h => h)); have XE17 := Lib.hid (XE16.out.upd hu (fun h => h)); have XI17 := Lib.hid (XI16.out.upd hu (fun h => h)); have HA17 := Lib.hid (HA16.out.upd0 hu); have HS17 := Lib.hid (HS16.out.upd0 hu); have QA17 := Lib.hid (QA16.out.upd0 hu); have QF17 := Lib.hid (QF16.out.upd0 hu); have QE17 := Lib.hid (QE16.out.upd0 hu); have QZ17 := Lib.hid (QZ16.out.upd0 hu); have U17 := Lib.hid (U16.out.trans hu (fun _ h => h.elim)); have BCd0_17 : w17.cell? ⟨w.heap.size, 0, none⟩ = some (.slice A n c) := BC17.out.cell 0; have BCd1_17 : w17.cell? ⟨w.heap.size, 1, none⟩ = some (.slice M m d) := BC17.out.cell 1; have BCd2_17 : w17.cell? ⟨w.heap.size, 2, none⟩ = some (.int .i64 st) := BC17.out.cell 2; have BCd3_17 : w17.cell? ⟨w.heap.size, 3, none⟩ = some (.int .i64 sp) := BC17.out.cell 3; have BCd4_17 : w17.cell? ⟨w.heap.size, 4, none⟩ = some (.int .i64 cs) := BC17.out.cell 4; have BCd5_17 : w17.cell? ⟨w.heap.size, 5, none⟩ = some (.int .u64 sa) := BC17.out.cell 5; have XAd0_17 : w17.cell? ⟨w4.heap.size, 0, none⟩ = some (.slice A n c) := XA17.out.cell 0; have XAd1_17 : w17.cell? ⟨w4.heap.size, 1, none⟩ = some (.slice X1 m e1) := XA17.out.cell 1; have XAd2_17 : w17.cell? ⟨w4.heap.size, 2, none⟩ = some (.int .i64 r1) := XA17.out.cell 2; have XAd3_17 : w17.cell? ⟨w4.heap.size, 3, none⟩ = some (.int .i64 r2) := XA17.out.cell 3; have XAd4_17 : w17.cell? ⟨w4.heap.size, 4, none⟩ = some (.int .i64 r3) := XA17.out.cell 4; have XAd5_17 : w17.cell? ⟨w4.heap.size, 5, none⟩ = some (.int .u64 r4) := XA17.out.cell 5; have XBd0_17 : w17.cell? ⟨w5.heap.size, 0, none⟩ = some (.slice A n c) := XB17.out.cell 0; have XBd1_17 : w17.cell? ⟨w5.heap.size, 1, none⟩ = some (.slice M m d) := XB17.out.cell 1; have XBd2_17 : w17.cell? ⟨w5.heap.size, 2, none⟩ = some (.int .i64 r1) := XB17.out.cell 2; have XBd3_17 : w17.cell? ⟨w5.heap.size, 3, none⟩ = some (.int .i64 r2) := XB17.out.cell 3; have XBd4_17 : w17.cell? ⟨w5.heap.size, 4, none⟩ = some (.int .i64 r3) := XB17.out.cell 4; have XBd5_17 : w17.cell? ⟨w5.heap.size, 5, none⟩ = some (.int .u64 r4) := XB17.out.cell 5; have XFd0_17 : w17.cell? ⟨gf, 0, none⟩ = some (.slice A n c) := XF17.out.cell 0; have XFd1_17 : w17.cell? ⟨gf, 1, none⟩ = some (.slice X m e0) := XF17.out.cell 1; have XFd2_17 : w17.cell? ⟨gf, 2, none⟩ = some (.int .i64 f1) := XF17.out.cell 2; have XFd3_17 : w17.cell? ⟨gf, 3, none⟩ = some (.int .i64 f2) := XF17.out.cell 3; have XFd4_17 : w17.cell? ⟨gf, 4, none⟩ = some (.int .i64 f3) := XF17.out.cell 4; have XFd5_17 : w17.cell? ⟨gf, 5, none⟩ = some (.int .u64 f4) := XF17.out.cell 5; have XGd0_17 : w17.cell? ⟨w8.heap.size, 0, none⟩ = some (.slice A n c) := XG17.out.cell 0; have XGd1_17 : w17.cell? ⟨w8.heap.size, 1, none⟩ = some (.slice M m d) := XG17.out.cell 1; have XGd2_17 : w17.cell? ⟨w8.heap.size, 2, none⟩ = some (.int .i64 f1) := XG17.out.cell 2; have XGd3_17 : w17.cell? ⟨w8.heap.size, 3, none⟩ = some (.int .i64 f2) := XG17.out.cell 3; have XGd4_17 : w17.cell? ⟨w8.heap.size, 4, none⟩ = some (.int .i64 f3) := XG17.out.cell 4; have XGd5_17 : w17.cell? ⟨w8.heap.size, 5, none⟩ = some (.int .u64 f4) := XG17.out.cell 5; have XEd0_17 : w17.cell? ⟨w10.heap.size, 0, none⟩ = some (.slice A n c) := XE17.out.cell 0; have XEd1_17 : w17.cell? ⟨w10.heap.size, 1, none⟩ = some (.slice X2 m e2) := XE17.out.cell 1; have XEd2_17 : w17.cell? ⟨w10.heap.size, 2, none⟩ = some (.int .i64 g1) := XE17.out.cell 2; have XEd3_17 : w17.cell? ⟨w10.heap.size, 3, none⟩ = some (.int .i64 g2) := XE17.out.cell 3; have XEd4_17 : w17.cell? ⟨w10.heap.size, 4, none⟩ = some (.int .i64 g3) := XE17.out.cell 4; have XEd5_17 : w17.cell? ⟨w10.heap.size, 5, none⟩ = some (.int .u64 g4) := XE17.out.cell 5; have XId0_17 : w17.cell? ⟨w11.heap.size, 0, none⟩ = some (.slice A n c) := XI17.out.cell 0; have XId1_17 : w17.cell? ⟨w11.heap.size, 1, none⟩ = some (.slice M m d) := XI17.out.cell 1; have XId2_17 : w17.cell? ⟨w11.heap.size, 2, none⟩ = some (.int .i64 g1) := XI17.out.cell 2; have XId3_17 : w17.cell? ⟨w11.heap.size, 3, none⟩ = some (.int .i64 g2) := XI17.out.cell 3; have XId4_17 : w17.cell? ⟨w11.heap.size, 4, none⟩ = some (.int .i64 g3) := XI17.out.cell 4; have XId5_17 : w17.cell? ⟨w11.heap.size, 5, none⟩ = some (.int .u64 g4) := XI17.out.cell 5; clear hd hu) | (go_at_call 13; refine (cmade_any A M n c m d st sp cs sa ms HM.out (by omega) _ HS15.out).mono ?_; rintro e w16 ⟨X3, e3, rfl, qQZ, hd⟩; have hu := Upd.of_below hd (fun _ => False); have BC16 := Lib.hid (BC15.out.upd hu (fun h => h)); have XA16 := Lib.hid (XA15.out.upd hu (fun h => h)); have XB16 := Lib.hid (XB15.out.upd hu (fun h => h)); have XF16 := Lib.hid (XF15.out.upd hu (fun h => h)); have XG16 := Lib.hid (XG15.out.upd hu (fun h => h)); have XE16 := Lib.hid (XE15.out.upd hu (fun h => h)); have XI16 := Lib.hid (XI15.out.upd hu (fun h => h)); have HA16 := Lib.hid (HA15.out.upd0 hu); have HS16 := Lib.hid (HS15.out.upd0 hu); have QA16 := Lib.hid (QA15.out.upd0 hu); have QF16 := Lib.hid (QF15.out.upd0 hu); have QE16 := Lib.hid (QE15.out.upd0 hu); have QZ16 := Lib.hid qQZ; clear qQZ; have U16 := Lib.hid (U15.out.trans hu (fun _ h => h.elim)); have BCd0_16 : w16.cell? ⟨w.heap.size, 0, none⟩ = some (.slice A n c) := BC16.out.cell 0; have BCd1_16 : w16.cell? ⟨w.heap.size, 1, none⟩ = some (.slice M m d) := BC16.out.cell 1; have BCd2_16 : w16.cell? ⟨w.heap.size, 2, none⟩ = some (.int .i64 st) := BC16.out.cell 2; have BCd3_16 : w16.cell? ⟨w.heap.size, 3, none⟩ = some (.int .i64 sp) := BC16.out.cell 3; have BCd4_16 : w16.cell? ⟨w.heap.size, 4, none⟩ = some (.int .i64 cs) := BC16.out.cell 4; have BCd5_16 : w16.cell? ⟨w.heap.size, 5, none⟩ = some (.int .u64 sa) := BC16.out.cell 5; have XAd0_16 : w16.cell? ⟨w4.heap.size, 0, none⟩ = some (.slice A n c) := XA16.out.cell 0; have XAd1_16 : w16.cell? ⟨w4.heap.size, 1, none⟩ = some (.slice X1 m e1) := XA16.out.cell 1; have XAd2_16 : w16.cell? ⟨w4.heap.size, 2, none⟩ = some (.int .i64 r1) := XA16.out.cell 2; have XAd3_16 : w16.cell? ⟨w4.heap.size, 3, none⟩ = some (.int .i64 r2) := XA16.out.cell 3; have XAd4_16 : w16.cell? ⟨w4.heap.size, 4, none⟩ = some (.int .i64 r3) := XA16.out.cell 4; have XAd5_16 : w16.cell? ⟨w4.heap.size, 5, none⟩ = some (.int .u64 r4) := XA16.out.cell 5; have XBd0_16 : w16.cell? ⟨w5.heap.size, 0, none⟩ = some (.slice A n c) := XB16.out.cell 0; have XBd1_16 : w16.cell? ⟨w5.heap.size, 1, none⟩ = some (.slice M m d) := XB16.out.cell 1; have XBd2_16 : w16.cell? ⟨w5.heap.size, 2, none⟩ = some (.int .i64 r1) := XB16.out.cell 2; have XBd3_16 : w16.cell? ⟨w5.heap.size, 3, none⟩ = some (.int .i64 r2) := XB16.out.cell 3; have XBd4_16 : w16.cell? ⟨w5.heap.size, 4, none⟩ = some (.int .i64 r3) := XB16.out.cell 4; have XBd5_16 : w16.cell? ⟨w5.heap.size, 5, none⟩ = some (.int .u64 r4) := XB16.out.cell 5; have XFd0_16 : w16.cell? ⟨gf, 0, none⟩ = some (.slice A n c) := XF16.out.cell 0; have XFd1_16 : w16.cell? ⟨gf, 1, none⟩ = some (.slice X m e0) := XF16.out.cell 1; have XFd2_16 : w16.cell? ⟨gf, 2, none⟩ = some (.int .i64 f1) := XF16.out.cell 2; have XFd3_16 : w16.cell? ⟨gf, 3, none⟩ = some (.int .i64 f2) := XF16.out.cell 3; have XFd4_16 : w16.cell? ⟨gf, 4, none⟩ = some (.int .i64 f3) := XF16.out.cell 4; have XFd5_16 : w16.cell? ⟨gf, 5, none⟩ = some (.int .u64 f4) := XF16.out.cell 5; have XGd0_16 : w16.cell? ⟨w8.heap.size, 0, none⟩ = some (.slice A n c) := XG16.out.cell 0; have XGd1_16 : w16.cell? ⟨w8.heap.size, 1, none⟩ = some (.slice M m d) := XG16.out.cell 1; have XGd2_16 : w16.cell? ⟨w8.heap.size, 2, none⟩ = some (.int .i64 f1) := XG16.out.cell 2; have XGd3_16 : w16.cell? ⟨w8.heap.size, 3, none⟩ = some (.int .i64 f2) := XG16.out.cell 3; have XGd4_16 : w16.cell? ⟨w8.heap.size, 4, none⟩ = some (.int .i64 f3) := XG16.out.cell 4; have XGd5_16 : w16.cell? ⟨w8.heap.size, 5, none⟩ = some (.int .u64 f4) := XG16.out.cell 5; have XEd0_16 : w16.cell? ⟨w10.heap.size, 0, none⟩ = some (.slice A n c) := XE16.out.cell 0; have XEd1_16 : w16.cell? ⟨w10.heap.size, 1, none⟩ = some (.slice X2 m e2) := XE16.out.cell 1; have XEd2_16 : w16.cell? ⟨w10.heap.size, 2, none⟩ = some (.int .i64 g1) := XE16.out.cell 2; have XEd3_16 : w16.cell? ⟨w10.heap.size, 3, none⟩ = some (.int .i64 g2) := XE16.out.cell 3; have XEd4_16 : w16.cell? ⟨w10.heap.size, 4, none⟩ = some (.int .i64 g3) := XE16.out.cell 4; have XEd5_16 : w16.cell? ⟨w10.heap.size, 5, none⟩ = some (.int .u64 g4) := XE16.out.cell 5; have XId0_16 : w16.cell? ⟨w11.heap.size, 0, none⟩ = some (.slice A n c) := XI16.out.cell 0; have XId1_16 : w16.cell? ⟨w11.heap.size, 1, none⟩ = some (.slice M m d) := XI16.out.cell 1; have XId2_16 : w16.cell? ⟨w11.heap.size, 2, none⟩ = some (.int .i64 g1) := XI16.out.cell 2; have XId3_16 : w16.cell? ⟨w11.heap.size, 3, none⟩ = some (.int .i64 g2) := XI16.out.cell 3; have XId4_16 : w16.cell? ⟨w11.heap.size, 4, none⟩ = some (.int .i64 g3) := XI16.out.cell 4; have XId5_16 : w16.cell? ⟨w11.heap.size, 5, none⟩ = some (.int .u64 g4) := XI16.out.cell 5; clear hd hu) | (go_at_call 17; refine (csame_any g1 g2 g3 g4 HN.out HM.out (by omega) (by omega) _ HA14.out QE14.out HA14.out HS14.out).mono ?_; rintro e w15 ⟨rfl, hd⟩; have hu := Upd.of_below hd (fun _ => False); have BC15 := Lib.hid (BC14.out.upd hu (fun h => h)); have XA15 := Lib.hid (XA14.out.upd hu (fun h => h)); have XB15 := Lib.hid (XB14.out.upd hu (fun h => h)); have XF15 := Lib.hid (XF14.out.upd hu (fun h => h)); have XG15 := Lib.hid (XG14.out.upd hu (fun h => h)); have XE15 := Lib.hid (XE14.out.upd hu (fun h => h)); have XI15 := Lib.hid (XI14.out.upd hu (fun h => h)); have HA15 := Lib.hid (HA14.out.upd0 hu); have HS15 := Lib.hid (HS14.out.upd0 hu); have QA15 := Lib.hid (QA14.out.upd0 hu); have QF15 := Lib.hid (QF14.out.upd0 hu); have QE15 := Lib.hid (QE14.out.upd0 hu); have U15 := Lib.hid (U14.out.trans hu (fun _ h => h.elim)); have BCd0_15 : w15.cell? ⟨w.heap.size, 0, none⟩ = some (.slice A n c) := BC15.out.cell 0; have BCd1_15 : w15.cell? ⟨w.heap.size, 1, none⟩ = some (.slice M m d) := BC15.out.cell 1; have BCd2_15 : w15.cell? ⟨w.heap.size, 2, none⟩ = some (.int .i64 st) := BC15.out.cell 2; have BCd3_15 : w15.cell? ⟨w.heap.size, 3, none⟩ = some (.int .i64 sp) := BC15.out.cell 3; have BCd4_15 : w15.cell? ⟨w.heap.size, 4, none⟩ = some (.int .i64 cs) := BC15.out.cell 4; have BCd5_15 : w15.cell? ⟨w.heap.size, 5, none⟩ = some (.int .u64 sa) := BC15.out.cell 5; have XAd0_15 : w15.cell? ⟨w4.heap.size, 0, none⟩ = some (.slice A n c) := XA15.out.cell 0; have XAd1_15 : w15.cell? ⟨w4.heap.size, 1, none⟩ = some (.slice X1 m e1) := XA15.out.cell 1; have XAd2_15 : w15.cell? ⟨w4.heap.size, 2, none⟩ = some (.int .i64 r1) := XA15.out.cell 2; have XAd3_15 : w15.cell? ⟨w4.heap.size, 3, none⟩ = some (.int .i64 r2) := XA15.out.cell 3; have XAd4_15 : w15.cell? ⟨w4.heap.size, 4, none⟩ = some (.int .i64 r3) := XA15.out.cell 4; have XAd5_15 : w15.cell? ⟨w4.heap.size, 5, none⟩ = some (.int .u64 r4) := XA15.out.cell 5; have XBd0_15 : w15.cell? ⟨w5.heap.size, 0, none⟩ = some (.slice A n c) := XB15.out.cell 0; have XBd1_15 : w15.cell? ⟨w5.heap.size, 1, none⟩ = some (.slice M m d) := XB15.out.cell 1; have XBd2_15 : w15.cell? ⟨w5.heap.size, 2, none⟩ = some (.int .i64 r1) := XB15.out.cell 2; have XBd3_15 : w15.cell? ⟨w5.heap.size, 3, none⟩ = some (.int .i64 r2) := XB15.out.cell 3; have XBd4_15 : w15.cell? ⟨w5.heap.size, 4, none⟩ = some (.int .i64 r3) := XB15.out.cell 4; have XBd5_15 : w15.cell? ⟨w5.heap.size, 5, none⟩ = some (.int .u64 r4) := XB15.out.cell 5; have XFd0_15 : w15.cell? ⟨gf, 0, none⟩ = some (.slice A n c) := XF15.out.cell 0; have XFd1_15 : w15.cell? ⟨gf, 1, none⟩ = some (.slice X m e0) := XF15.out.cell 1; have XFd2_15 : w15.cell? ⟨gf, 2, none⟩ = some (.int .i64 f1) := XF15.out.cell 2; have XFd3_15 : w15.cell? ⟨gf, 3, none⟩ = some (.int .i64 f2) := XF15.out.cell 3; have XFd4_15 : w15.cell? ⟨gf, 4, none⟩ = some (.int .i64 f3) := XF15.out.cell 4; have XFd5_15 : w15.cell? ⟨gf, 5, none⟩ = some (.int .u64 f4) := XF15.out.cell 5; have XGd0_15 : w15.cell? ⟨w8.heap.size, 0, none⟩ = some (.slice A n c) := XG15.out.cell 0; have XGd1_15 : w15.cell? ⟨w8.heap.size, 1, none⟩ = some (.slice M m d) := XG15.out.cell 1; have XGd2_15 : w15.cell? ⟨w8.heap.size, 2, none⟩ = some (.int .i64 f1) := XG15.out.cell 2; have XGd3_15 : w15.cell? ⟨w8.heap.size, 3, none⟩ = some (.int .i64 f2) := XG15.out.cell 3; have XGd4_15 : w15.cell? ⟨w8.heap.size, 4, none⟩ = some (.int .i64 f3) := XG15.out.cell 4; have XGd5_15 : w15.cell? ⟨w8.heap.size, 5, none⟩ = some (.int .u64 f4) := XG15.out.cell 5; have XEd0_15 : w15.cell? ⟨w10.heap.size, 0, none⟩ = some (.slice A n c) := XE15.out.cell 0; have XEd1_15 : w15.cell? ⟨w10.heap.size, 1, none⟩ = some (.slice X2 m e2) := XE15.out.cell 1; have XEd2_15 : w15.cell? ⟨w10.heap.size, 2, none⟩ = some (.int .i64 g1) := XE15.out.cell 2; have XEd3_15 : w15.cell? ⟨w10.heap.size, 3, none⟩ = some (.int .i64 g2) := XE15.out.cell 3; have XEd4_15 : w15.cell? ⟨w10.heap.size, 4, none⟩ = some (.int .i64 g3) := XE15.out.cell 4; have XEd5_15 : w15.cell? ⟨w10.heap.size, 5, none⟩ = some (.int .u64 g4) := XE15.out.cell 5; have XId0_15 : w15.cell? ⟨w11.heap.size, 0, none⟩ = some (.slice A n c) := XI15.out.cell 0; have XId1_15 : w15.cell? ⟨w11.heap.size, 1, none⟩ = some (.slice M m d) := XI15.out.cell 1; have XId2_15 : w15.cell? ⟨w11.heap.size, 2, none⟩ = some (.int .i64 g1) := XI15.out.cell 2; have XId3_15 : w15.cell? ⟨w11.heap.size, 3, none⟩ = some (.int .i64 g2) := XI15.out.cell 3; have XId4_15 : w15.cell? ⟨w11.heap.size, 4, none⟩ = some (.int .i64 g3) := XI15.out.cell 4; have XId5_15 : w15.cell? ⟨w11.heap.size, 5, none⟩ = some (.int .u64 g4) := XI15.out.cell 5; clear hd hu) | (go_at_call 17; refine (csame_any f1 f2 f3 f4 HN.out HM.out (by omega) (by omega) _ HA13.out QF13.out HA13.out HS13.out).mono ?_; rintro e w14 ⟨rfl, hd⟩; have hu := Upd.of_below hd (fun _ => False); have BC14 := Lib.hid (BC13.out.upd hu (fun h => h)); have XA14 := Lib.hid (XA13.out.upd hu (fun h => h)); have XB14 := Lib.hid (XB13.out.upd hu (fun h => h)); have XF14 := Lib.hid (XF13.out.upd hu (fun h => h)); have XG14 := Lib.hid (XG13.out.upd hu (fun h => h)); have XE14 := Lib.hid (XE13.out.upd hu (fun h => h)); have XI14 := Lib.hid (XI13.out.upd hu (fun h => h)); have HA14 := Lib.hid (HA13.out.upd0 hu); have HS14 := Lib.hid (HS13.out.upd0 hu); have QA14 := Lib.hid (QA13.out.upd0 hu); have QF14 := Lib.hid (QF13.out.upd0 hu); have QE14 := Lib.hid (QE13.out.upd0 hu); have U14 := Lib.hid (U13.out.trans hu (fun _ h => h.elim)); have BCd0_14 : w14.cell? ⟨w.heap.size, 0, none⟩ = some (.slice A n c) := BC14.out.cell 0; have BCd1_14 : w14.cell? ⟨w.heap.size, 1, none⟩ = some (.slice M m d) := BC14.out.cell 1; have BCd2_14 : w14.cell? ⟨w.heap.size, 2, none⟩ = some (.int .i64 st) := BC14.out.cell 2; have BCd3_14 : w14.cell? ⟨w.heap.size, 3, none⟩ = some (.int .i64 sp) := BC14.out.cell 3; have BCd4_14 : w14.cell? ⟨w.heap.size, 4, none⟩ = some (.int .i64 cs) := BC14.out.cell 4; have BCd5_14 : w14.cell? ⟨w.heap.size, 5, none⟩ = some (.int .u64 sa) := BC14.out.cell 5; have XAd0_14 : w14.cell? ⟨w4.heap.size, 0, none⟩ = some (.slice A n c) := XA14.out.cell 0; have XAd1_14 : w14.cell? ⟨w4.heap.size, 1, none⟩ = some (.slice X1 m e1) := XA14.out.cell 1; have XAd2_14 : w14.cell? ⟨w4.heap.size, 2, none⟩ = some (.int .i64 r1) := XA14.out.cell 2; have XAd3_14 : w14.cell? ⟨w4.heap.size, 3, none⟩ = some (.int .i64 r2) := XA14.out.cell 3; have XAd4_14 : w14.cell? ⟨w4.heap.size, 4, none⟩ = some (.int .i64 r3) := XA14.out.cell 4; have XAd5_14 : w14.cell? ⟨w4.heap.size, 5, none⟩ = some (.int .u64 r4) := XA14.out.cell 5; have XBd0_14 : w14.cell? ⟨w5.heap.size, 0, none⟩ = some (.slice A n c) := XB14.out.cell 0; have XBd1_14 : w14.cell? ⟨w5.heap.size, 1, none⟩ = some (.slice M m d) := XB14.out.cell 1; have XBd2_14 : w14.cell? ⟨w5.heap.size, 2, none⟩ = some (.int .i64 r1) := XB14.out.cell 2; have XBd3_14 : w14.cell? ⟨w5.heap.size, 3, none⟩ = some (.int .i64 r2) := XB14.out.cell 3; have XBd4_14 : w14.cell? ⟨w5.heap.size, 4, none⟩ = some (.int .i64 r3) := XB14.out.cell 4; have XBd5_14 : w14.cell? ⟨w5.heap.size, 5, none⟩ = some (.int .u64 r4) := XB14.out.cell 5; have XFd0_14 : w14.cell? ⟨gf, 0, none⟩ = some (.slice A n c) := XF14.out.cell 0; have XFd1_14 : w14.cell? ⟨gf, 1, none⟩ = some (.slice X m e0) := XF14.out.cell 1; have XFd2_14 : w14.cell? ⟨gf, 2, none⟩ = some (.int .i64 f1) := XF14.out.cell 2; have XFd3_14 : w14.cell? ⟨gf, 3, none⟩ = some (.int .i64 f2) := XF14.out.cell 3; have XFd4_14 : w14.cell? ⟨gf, 4, none⟩ = some (.int .i64 f3) := XF14.out.cell 4; have XFd5_14 : w14.cell? ⟨gf, 5, none⟩ = some (.int .u64 f4) := XF14.out.cell 5; have XGd0_14 : w14.cell? ⟨w8.heap.size, 0, none⟩ = some (.slice A n c) := XG14.out.cell 0; have XGd1_14 : w14.cell? ⟨w8.heap.size, 1, none⟩ = some (.slice M m d) := XG14.out.cell 1; have XGd2_14 : w14.cell? ⟨w8.heap.size, 2, none⟩ = some (.int .i64 f1) := XG14.out.cell 2; have XGd3_14 : w14.cell? ⟨w8.heap.size, 3, none⟩ = some (.int .i64 f2) := XG14.out.cell 3; have XGd4_14 : w14.cell? ⟨w8.heap.size, 4, none⟩ = some (.int .i64 f3) := XG14.out.cell 4; have XGd5_14 : w14.cell? ⟨w8.heap.size, 5, none⟩ = some (.int .u64 f4) := XG14.out.cell 5; have XEd0_14 : w14.cell? ⟨w10.heap.size, 0, none⟩ = some (.slice A n c) := XE14.out.cell 0; have XEd1_14 : w14.cell? ⟨w10.heap.size, 1, none⟩ = some (.slice X2 m e2) := XE14.out.cell 1; have XEd2_14 : w14.cell? ⟨w10.heap.size, 2, none⟩ = some (.int .i64 g1) := XE14.out.cell 2; have XEd3_14 : w14.cell? ⟨w10.heap.size, 3, none⟩ = some (.int .i64 g2) := XE14.out.cell 3; have XEd4_14 : w14.cell? ⟨w10.heap.size, 4, none⟩ = some (.int .i64 g3) := XE14.out.cell 4; have XEd5_14 : w14.cell? ⟨w10.heap.size, 5, none⟩ = some (.int .u64 g4) := XE14.out.cell 5; have XId0_14 : w14.cell? ⟨w11.heap.size, 0, none⟩ = some (.slice A n c) := XI14.out.cell 0; have XId1_14 : w14.cell? ⟨w11.heap.size, 1, none⟩ = some (.slice M m d) := XI14.out.cell 1; have XId2_14 : w14.cell? ⟨w11.heap.size, 2, none⟩ = some (.int .i64 g1) := XI14.out.cell 2; have XId3_14 : w14.cell? ⟨w11.heap.size, 3, none⟩ = some (.int .i64 g2) := XI14.out.cell 3; have XId4_14 : w14.cell? ⟨w11.heap.size, 4, none⟩ = some (.int .i64 g3) := XI14.out.cell 4; have XId5_14 : w14.cell? ⟨w11.heap.size, 5, none⟩ = some (.int .u64 g4) := XI14.out.cell 5; clear hd hu) | (go_at_call 17; refine (csame_any r1 r2 r3 r4 HN.out HM.out (by omega) (by omega) _ HA12.out.drew QA12.out.drew HA12.out.drew HS12.out.drew).mono ?_; rintro e w13 ⟨rfl, hd⟩; have hu := Upd.of_below hd (fun _ => False); have BC13 := Lib.hid (BC12.out.drew.upd hu (fun h => h)); have XA13 := Lib.hid (XA12.out.drew.upd hu (fun h => h)); have XB13 := Lib.hid (XB12.out.drew.upd hu (fun h => h)); have XF13 := Lib.hid (XF12.out.drew.upd hu (fun h => h)); have XG13 := Lib.hid (XG12.out.drew.upd hu (fun h => h)); have XE13 := Lib.hid (XE12.out.drew.upd hu (fun h => h)); have XI13 := Lib.hid (XI12.out.drew.upd hu (fun h => h)); have HA13 := Lib.hid (HA12.out.drew.upd0 hu); have HS13 := Lib.hid (HS12.out.drew.upd0 hu); have QA13 := Lib.hid (QA12.out.drew.upd0 hu); have QF13 := Lib.hid (QF12.out.drew.upd0 hu); have QE13 := Lib.hid (QE12.out.drew.upd0 hu); have U13 := Lib.hid (U12.out.drew.trans hu (fun _ h => h.elim)); have BCd0_13 : w13.cell? ⟨w.heap.size, 0, none⟩ = some (.slice A n c) := BC13.out.cell 0; have BCd1_13 : w13.cell? ⟨w.heap.size, 1, none⟩ = some (.slice M m d) := BC13.out.cell 1; have BCd2_13 : w13.cell? ⟨w.heap.size, 2, none⟩ = some (.int .i64 st) := BC13.out.cell 2; have BCd3_13 : w13.cell? ⟨w.heap.size, 3, none⟩ = some (.int .i64 sp) := BC13.out.cell 3; have BCd4_13 : w13.cell? ⟨w.heap.size, 4, none⟩ = some (.int .i64 cs) := BC13.out.cell 4; have BCd5_13 : w13.cell? ⟨w.heap.size, 5, none⟩ = some (.int .u64 sa) := BC13.out.cell 5; have XAd0_13 : w13.cell? ⟨w4.heap.size, 0, none⟩ = some (.slice A n c) := XA13.out.cell 0; have XAd1_13 : w13.cell? ⟨w4.heap.size, 1, none⟩ = some (.slice X1 m e1) := XA13.out.cell 1; have XAd2_13 : w13.cell? ⟨w4.heap.size, 2, none⟩ = some (.int .i64 r1) := XA13.out.cell 2; have XAd3_13 : w13.cell? ⟨w4.heap.size, 3, none⟩ = some (.int .i64 r2) := XA13.out.cell 3; have XAd4_13 : w13.cell? ⟨w4.heap.size, 4, none⟩ = some (.int .i64 r3) := XA13.out.cell 4; have XAd5_13 : w13.cell? ⟨w4.heap.size, 5, none⟩ = some (.int .u64 r4) := XA13.out.cell 5; have XBd0_13 : w13.cell? ⟨w5.heap.size, 0, none⟩ = some (.slice A n c) := XB13.out.cell 0; have XBd1_13 : w13.cell? ⟨w5.heap.size, 1, none⟩ = some (.slice M m d) := XB13.out.cell 1; have XBd2_13 : w13.cell? ⟨w5.heap.size, 2, none⟩ = some (.int .i64 r1) := XB13.out.cell 2; have XBd3_13 : w13.cell? ⟨w5.heap.size, 3, none⟩ = some (.int .i64 r2) := XB13.out.cell 3; have XBd4_13 : w13.cell? ⟨w5.heap.size, 4, none⟩ = some (.int .i64 r3) := XB13.out.cell 4; have XBd5_13 : w13.cell? ⟨w5.heap.size, 5, none⟩ = some (.int .u64 r4) := XB13.out.cell 5; have XFd0_13 : w13.cell? ⟨gf, 0, none⟩ = some (.slice A n c) := XF13.out.cell 0; have XFd1_13 : w13.cell? ⟨gf, 1, none⟩ = some (.slice X m e0) := XF13.out.cell 1; have XFd2_13 : w13.cell? ⟨gf, 2, none⟩ = some (.int .i64 f1) := XF13.out.cell 2; have XFd3_13 : w13.cell? ⟨gf, 3, none⟩ = some (.int .i64 f2) := XF13.out.cell 3; have XFd4_13 : w13.cell? ⟨gf, 4, none⟩ = some (.int .i64 f3) := XF13.out.cell 4; have XFd5_13 : w13.cell? ⟨gf, 5, none⟩ = some (.int .u64 f4) := XF13.out.cell 5; have XGd0_13 : w13.cell? ⟨w8.heap.size, 0, none⟩ = some (.slice A n c) := XG13.out.cell 0; have XGd1_13 : w13.cell? ⟨w8.heap.size, 1, none⟩ = some (.slice M m d) := XG13.out.cell 1; have XGd2_13 : w13.cell? ⟨w8.heap.size, 2, none⟩ = some (.int .i64 f1) := XG13.out.cell 2; have XGd3_13 : w13.cell? ⟨w8.heap.size, 3, none⟩ = some (.int .i64 f2) := XG13.out.cell 3; have XGd4_13 : w13.cell? ⟨w8.heap.size, 4, none⟩ = some (.int .i64 f3) := XG13.out.cell 4; have XGd5_13 : w13.cell? ⟨w8.heap.size, 5, none⟩ = some (.int .u64 f4) := XG13.out.cell 5; have XEd0_13 : w13.cell? ⟨w10.heap.size, 0, none⟩ = some (.slice A n c) := XE13.out.cell 0; have XEd1_13 : w13.cell? ⟨w10.heap.size, 1, none⟩ = some (.slice X2 m e2) := XE13.out.cell 1; have XEd2_13 : w13.cell? ⟨w10.heap.size, 2, none⟩ = some (.int .i64 g1) := XE13.out.cell 2; have XEd3_13 : w13.cell? ⟨w10.heap.size, 3, none⟩ = some (.int .i64 g2) := XE13.out.cell 3; have XEd4_13 : w13.cell? ⟨w10.heap.size, 4, none⟩ = some (.int .i64 g3) := XE13.out.cell 4; have XEd5_13 : w13.cell? ⟨w10.heap.size, 5, none⟩ = some (.int .u64 g4) := XE13.out.cell 5; have XId0_13 : w13.cell? ⟨w11.heap.size, 0, none⟩ = some (.slice A n c) := XI13.out.cell 0; have XId1_13 : w13.cell? ⟨w11.heap.size, 1, none⟩ = some (.slice M m d) := XI13.out.cell 1; have XId2_13 : w13.cell? ⟨w11.heap.size, 2, none⟩ = some (.int .i64 g1) := XI13.out.cell 2; have XId3_13 : w13.cell? ⟨w11.heap.size, 3, none⟩ = some (.int .i64 g2) := XI13.out.cell 3; have XId4_13 : w13.cell? ⟨w11.heap.size, 4, none⟩ = some (.int .i64 g3) := XI13.out.cell 4; have XId5_13 : w13.cell? ⟨w11.heap.size, 5, none⟩ = some (.int .u64 g4) := XI13.out.cell 5; clear hd hu))
      go_wp2
      go_ret
      exact ⟨rfl, U19.out.below0⟩
  · skip
    refine (few_to (b := false) (by simp at hf ⊢; exact hf) hn1 hm1 _).mono ?_
    rintro e w2 ⟨rfl, hd⟩
    have hu : Upd (fun _ => False) w1 w2 := Upd.of_below hd (fun _ => False)
    have HA2 := Lib.hid (HA1.out.upd0 hu)
    have HS2 := Lib.hid (HS1.out.upd0 hu)
    have BC2 := Lib.hid (BC1.out.upd hu (fun h => h))
    have U2 := Lib.hid (U1.out.trans hu (fun _ h => h.elim))
    have AR2 := Lib.hid (AR1.out.upd hu (fun h => h))
    clear AR1 hd hu HA1 HS1 BC1 U1 y0 y1 y2 y3 y4 y5 ly
    go_wp2
    go_ret
    exact ⟨rfl, U2.out.below0⟩
theorem calltells_walk {w : World} (v0 : Value) (w0 : IsCall w v0) (c1 : Array Value) (w1 : Oks [.int .i64, .int .i64] c1.toList) (a2 : Int) (w2 : (Lit.int .u64 a2).wf = true) :
    Calls Try.prog 6 #[v0, .agg c1, .int .u64 a2] w fun e w' => e = .returned (.bool true) ∧ Below w.heap.size w w' := by
  obtain ⟨A, n, c, M, m, d, st, sp, cs, sa, xs, ms, rfl, hb⟩ := w0
  obtain ⟨p, r, rfl⟩ := agg_two w1
  exact calltells_any A M n c m d st sp cs sa p r a2 xs ms hb.hn hb.hm hb.bn hb.bm w hb.ha hb.hs
end Go.Proofs.Ytilpcgipjfegcaa
