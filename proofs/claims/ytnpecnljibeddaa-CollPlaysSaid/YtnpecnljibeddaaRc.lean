/- The document's window: New, Add, Expire. -/
import Derived.Test.YtnpecnljibeddaaCc
import Derived.Test.YtnpecnljibeddaaRa
import Derived.Test.YtnpecnljibeddaaKp
import Derived.Deep.RegionHeld3
import Derived.Deep.DrawnRows
namespace Go.Proofs.Ytnpecnljibeddaa
open Go.RowKit
attribute [local go_sem ↓] Go.wp_at_zero Go.wp_at_succ
set_option linter.unusedVariables false
set_option linter.unusedSimpArgs false

theorem rone_new (id arg : Int) (w : World) :
    Calls Try.prog 25 #[.int .i64 id, .int .i64 arg] w fun e w' => ∃ A c M d, e = .returned (.agg #[.slice A 1 c, .slice M 1 d]) ∧ Sl w' A 1 c (nums [arg]) ∧ Sl w' M 1 d (prs [(id, 0)]) ∧ (∀ b o, A = some ⟨b, o, none⟩ → w.heap.size ≤ b) ∧ (∀ b o, M = some ⟨b, o, none⟩ → w.heap.size ≤ b) ∧ Below w.heap.size w w' := by
  go_enter Try.func25, Try.ntmps25
  go_wp2
  refine bodyPost_ret (v := .agg #[.slice (some ⟨w.heap.size + 1, 0, none⟩) 1 1, .slice (some ⟨w.heap.size + 1 + 1, 0, none⟩) 1 1]) (by simp [results, Try.results25, go_sem]) rfl ⟨_, _, _, _, rfl, ?_, ?_, (fun b o e => by injection e with e; injection e with e; subst e; omega), (fun b o e => by injection e with e; injection e with e; subst e; omega), (by refine Upd.below0 ?_; repeat (first | exact Upd.refl _ _ | refine Upd.alloc ?_ _ | refine Upd.drew ?_ | refine Upd.drewN ?_ _))⟩
  · exact Sl.of_blk ((Blk.new1 w _ #[.int .i64 arg] 3).alloc _) (Nat.le_refl _) (by simp [maxLen]) (fun j u hu => by simpa [nums] using hu)
  · exact Sl.of_blk (Blk.new2 w _ _ #[.int .i64 id, .int .i64 0] 78) (Nat.le_refl _) (by simp [maxLen]) (fun j u hu => by simpa [prs] using hu)
/-- The frame of a call: four blocks. -/
def KF (w : World) (n : Nat) : Nat → Prop := fun k => w.heap.size ≤ k ∧ k < w.heap.size + n
set_option maxRecDepth 100000 in
set_option maxHeartbeats 4000000 in
theorem radd_new_ready {win most now id arg due e : Int} {A M : Option Addr} {n c m d : Nat} (hr : most ≤ (1 : Int)) (hw : W64 win) (hn : W64 now) (hd : sat now win = due) (w : World) :
    Calls Try.prog 14 #[.agg #[.int .u64 win, .int .i64 most, .bool false, .int .u64 e, .slice A n c, .slice M m d], .int .u64 now, .int .i64 id, .int .i64 arg] w fun e_ w' => ∃ A2 c2 M2 d2, e_ = .returned (.tuple #[.agg #[.int .u64 win, .int .i64 most, .bool false, .int .u64 due, .slice none 0 0, .slice none 0 0], .agg #[.bool true, .bool true, .int .u64 due, .slice A2 1 c2, .slice M2 1 d2]]) ∧ Sl w' A2 1 c2 (nums [arg]) ∧ Sl w' M2 1 d2 (prs [(id, 0)]) ∧ (∀ b o, A2 = some ⟨b, o, none⟩ → w.heap.size ≤ b) ∧ (∀ b o, M2 = some ⟨b, o, none⟩ → w.heap.size ≤ b) ∧ Below w.heap.size w w' := by
  have HW := Lib.hid hw
  have HN := Lib.hid hn
  have HD := Lib.hid hd
  have C0 := Lib.hid ((((Blk.new w #[.int .u64 win, .int .i64 most, .bool true, .int .u64 e, .slice A n c, .slice M m d] 32).alloc (.cells #[.int .u64 0, .int .i64 0, .bool false, .int .u64 0, .slice none 0 0, .slice none 0 0] 32)).alloc (.cells #[.bool false, .bool false, .int .u64 0, .slice none 0 0, .slice none 0 0] 45)).alloc (.cells #[.bool false, .bool false, .int .u64 0, .slice none 0 0, .slice none 0 0] 45))
  have P0 := Lib.hid (((Blk.new1 w (.cells #[.int .u64 win, .int .i64 most, .bool true, .int .u64 e, .slice A n c, .slice M m d] 32) #[.int .u64 0, .int .i64 0, .bool false, .int .u64 0, .slice none 0 0, .slice none 0 0] 32).alloc (.cells #[.bool false, .bool false, .int .u64 0, .slice none 0 0, .slice none 0 0] 45)).alloc (.cells #[.bool false, .bool false, .int .u64 0, .slice none 0 0, .slice none 0 0] 45))
  have Q0 := Lib.hid ((Blk.new2 w (.cells #[.int .u64 win, .int .i64 most, .bool true, .int .u64 e, .slice A n c, .slice M m d] 32) (.cells #[.int .u64 0, .int .i64 0, .bool false, .int .u64 0, .slice none 0 0, .slice none 0 0] 32) #[.bool false, .bool false, .int .u64 0, .slice none 0 0, .slice none 0 0] 45).alloc (.cells #[.bool false, .bool false, .int .u64 0, .slice none 0 0, .slice none 0 0] 45))
  have S0 := Lib.hid (Blk.new3 w (.cells #[.int .u64 win, .int .i64 most, .bool true, .int .u64 e, .slice A n c, .slice M m d] 32) (.cells #[.int .u64 0, .int .i64 0, .bool false, .int .u64 0, .slice none 0 0, .slice none 0 0] 32) (.cells #[.bool false, .bool false, .int .u64 0, .slice none 0 0, .slice none 0 0] 45) #[.bool false, .bool false, .int .u64 0, .slice none 0 0, .slice none 0 0] 45)
  have U0 : Hid (Upd (fun _ => False) w _) := Lib.hid (((((Upd.refl (fun _ => False) w).alloc (.cells #[.int .u64 win, .int .i64 most, .bool true, .int .u64 e, .slice A n c, .slice M m d] 32)).alloc (.cells #[.int .u64 0, .int .i64 0, .bool false, .int .u64 0, .slice none 0 0, .slice none 0 0] 32)).alloc (.cells #[.bool false, .bool false, .int .u64 0, .slice none 0 0, .slice none 0 0] 45)).alloc (.cells #[.bool false, .bool false, .int .u64 0, .slice none 0 0, .slice none 0 0] 45))
  clear hw hn hd
  go_enter Try.func14, Try.ntmps14
  go_wp2_with fail
  refine Calls.gen (fun W => Blk W (w.heap.size) 32 #[.int .u64 win, .int .i64 most, .bool true, .int .u64 e, .slice A n c, .slice M m d] ∧ Blk W (w.heap.size + 1) 32 #[.int .u64 0, .int .i64 0, .bool false, .int .u64 0, .slice none 0 0, .slice none 0 0] ∧ Blk W (w.heap.size + 1 + 1) 45 #[.bool false, .bool false, .int .u64 0, .slice none 0 0, .slice none 0 0] ∧ Blk W (w.heap.size + 1 + 1 + 1) 45 #[.bool false, .bool false, .int .u64 0, .slice none 0 0, .slice none 0 0] ∧ Upd (fun _ => False) w W) ⟨C0.out, P0.out, Q0.out, S0.out, U0.out⟩ ?_
  rintro w2 ⟨qC, qP, qQ, qS, qU⟩
  have C2 := Lib.hid qC
  have P2 := Lib.hid qP
  have Q2 := Lib.hid qQ
  have S2 := Lib.hid qS
  have U2 := Lib.hid qU
  clear qC qP qQ qS qU
  clear C0 P0 Q0 S0 U0
  have l2 := S2.out.lt
  refine (radd01_to HN.out HW.out HD.out _).mono ?_
  rintro e1 w1 ⟨rfl, rfl⟩
  have C0_ : w2.cell? ⟨w.heap.size, 0, none⟩ = some (.int .u64 win) := C2.out.cell 0
  have C1_ : w2.cell? ⟨w.heap.size, 1, none⟩ = some (.int .i64 most) := C2.out.cell 1
  have C2_ : w2.cell? ⟨w.heap.size, 2, none⟩ = some (.bool true) := C2.out.cell 2
  have C3_ : w2.cell? ⟨w.heap.size, 3, none⟩ = some (.int .u64 e) := C2.out.cell 3
  have C4_ : w2.cell? ⟨w.heap.size, 4, none⟩ = some (.slice A n c) := C2.out.cell 4
  have C5_ : w2.cell? ⟨w.heap.size, 5, none⟩ = some (.slice M m d) := C2.out.cell 5
  have Cl_ : w.heap.size < w2.heap.size := C2.out.lt
  have Cf_ := C2.out.frz
  have P0_ : w2.cell? ⟨w.heap.size + 1, 0, none⟩ = some (.int .u64 0) := P2.out.cell 0
  have P1_ : w2.cell? ⟨w.heap.size + 1, 1, none⟩ = some (.int .i64 0) := P2.out.cell 1
  have P2_ : w2.cell? ⟨w.heap.size + 1, 2, none⟩ = some (.bool false) := P2.out.cell 2
  have P3_ : w2.cell? ⟨w.heap.size + 1, 3, none⟩ = some (.int .u64 0) := P2.out.cell 3
  have P4_ : w2.cell? ⟨w.heap.size + 1, 4, none⟩ = some (.slice none 0 0) := P2.out.cell 4
  have P5_ : w2.cell? ⟨w.heap.size + 1, 5, none⟩ = some (.slice none 0 0) := P2.out.cell 5
  have Pl_ : w.heap.size + 1 < w2.heap.size := P2.out.lt
  have Pf_ := P2.out.frz
  have Q0_ : w2.cell? ⟨w.heap.size + 1 + 1, 0, none⟩ = some (.bool false) := Q2.out.cell 0
  have Q1_ : w2.cell? ⟨w.heap.size + 1 + 1, 1, none⟩ = some (.bool false) := Q2.out.cell 1
  have Q2_ : w2.cell? ⟨w.heap.size + 1 + 1, 2, none⟩ = some (.int .u64 0) := Q2.out.cell 2
  have Q3_ : w2.cell? ⟨w.heap.size + 1 + 1, 3, none⟩ = some (.slice none 0 0) := Q2.out.cell 3
  have Q4_ : w2.cell? ⟨w.heap.size + 1 + 1, 4, none⟩ = some (.slice none 0 0) := Q2.out.cell 4
  have Ql_ : w.heap.size + 1 + 1 < w2.heap.size := Q2.out.lt
  have Qf_ := Q2.out.frz
  have S0_ : w2.cell? ⟨w.heap.size + 1 + 1 + 1, 0, none⟩ = some (.bool false) := S2.out.cell 0
  have S1_ : w2.cell? ⟨w.heap.size + 1 + 1 + 1, 1, none⟩ = some (.bool false) := S2.out.cell 1
  have S2_ : w2.cell? ⟨w.heap.size + 1 + 1 + 1, 2, none⟩ = some (.int .u64 0) := S2.out.cell 2
  have S3_ : w2.cell? ⟨w.heap.size + 1 + 1 + 1, 3, none⟩ = some (.slice none 0 0) := S2.out.cell 3
  have S4_ : w2.cell? ⟨w.heap.size + 1 + 1 + 1, 4, none⟩ = some (.slice none 0 0) := S2.out.cell 4
  have Sl_ : w.heap.size + 1 + 1 + 1 < w2.heap.size := S2.out.lt
  have Sf_ := S2.out.frz
  go_wp2_with fail
  clear C0_ C1_ C2_ C3_ C4_ C5_ Cl_ Cf_ P0_ P1_ P2_ P3_ P4_ P5_ Pl_ Pf_ Q0_ Q1_ Q2_ Q3_ Q4_ Ql_ Qf_ S0_ S1_ S2_ S3_ S4_ Sl_ Sf_
  refine Calls.gen (fun W => Blk W (w.heap.size) 32 #[.int .u64 win, .int .i64 most, .bool true, .int .u64 due, .slice A n c, .slice M m d] ∧ Blk W (w.heap.size + 1) 32 #[.int .u64 0, .int .i64 0, .bool false, .int .u64 0, .slice none 0 0, .slice none 0 0] ∧ Blk W (w.heap.size + 1 + 1) 45 #[.bool false, .bool false, .int .u64 0, .slice none 0 0, .slice none 0 0] ∧ Blk W (w.heap.size + 1 + 1 + 1) 45 #[.bool false, .bool false, .int .u64 0, .slice none 0 0, .slice none 0 0] ∧ Upd (fun _ => False) w W) ⟨(C2.out.set 3 (.int .u64 due)), (P2.out.far (p := ⟨w.heap.size, 3, none⟩) (show w.heap.size + 1 ≠ w.heap.size by omega) (.int .u64 due)), (Q2.out.far (p := ⟨w.heap.size, 3, none⟩) (show w.heap.size + 1 + 1 ≠ w.heap.size by omega) (.int .u64 due)), (S2.out.far (p := ⟨w.heap.size, 3, none⟩) (show w.heap.size + 1 + 1 + 1 ≠ w.heap.size by omega) (.int .u64 due)), (U2.out.set (p := ⟨w.heap.size, 3, none⟩) (.inr (show w.heap.size ≤ w.heap.size by omega)) (.int .u64 due))⟩ ?_
  rintro w22 ⟨qC, qP, qQ, qS, qU⟩
  have C22 := Lib.hid qC
  have P22 := Lib.hid qP
  have Q22 := Lib.hid qQ
  have S22 := Lib.hid qS
  have U22 := Lib.hid qU
  clear qC qP qQ qS qU
  clear C2 P2 Q2 S2 U2 l2
  have C2 := C22
  clear C22
  have P2 := P22
  clear P22
  have Q2 := Q22
  clear Q22
  have S2 := S22
  clear S22
  have U2 := U22
  clear U22
  have l2 := S2.out.lt
  refine (rone_new id arg _).mono ?_
  rintro e1 w3 ⟨A2, c2, M2, d2, rfl, ha, hm, hna, hnm, hd⟩
  have KA3 : Hid (Kp w3 (KF w 4) A2 1 c2 (nums [arg])) := Lib.hid (Kp.of_new ha (fun b o e hk => by have := hna b o e; have := hk.2; omega))
  have KM3 : Hid (Kp w3 (KF w 4) M2 1 d2 (prs [(id, 0)])) := Lib.hid (Kp.of_new hm (fun b o e hk => by have := hnm b o e; have := hk.2; omega))
  have NA : Hid (∀ b o, A2 = some ⟨b, o, none⟩ → w.heap.size ≤ b) := Lib.hid (fun b o e => by have := hna b o e; omega)
  have NM : Hid (∀ b o, M2 = some ⟨b, o, none⟩ → w.heap.size ≤ b) := Lib.hid (fun b o e => by have := hnm b o e; omega)
  clear ha hm hna hnm
  have hu3 := Upd.of_below hd (fun _ => False)
  have C3 := Lib.hid (C2.out.upd hu3 (fun h => h))
  have P3 := Lib.hid (P2.out.upd hu3 (fun h => h))
  have Q3 := Lib.hid (Q2.out.upd hu3 (fun h => h))
  have S3 := Lib.hid (S2.out.upd hu3 (fun h => h))
  have U3 := Lib.hid (U2.out.trans hu3 (fun _ h => h.elim))
  clear hd hu3 C2 P2 Q2 S2 U2 l2
  have C0_ : w3.cell? ⟨w.heap.size, 0, none⟩ = some (.int .u64 win) := C3.out.cell 0
  have C1_ : w3.cell? ⟨w.heap.size, 1, none⟩ = some (.int .i64 most) := C3.out.cell 1
  have C2_ : w3.cell? ⟨w.heap.size, 2, none⟩ = some (.bool true) := C3.out.cell 2
  have C3_ : w3.cell? ⟨w.heap.size, 3, none⟩ = some (.int .u64 due) := C3.out.cell 3
  have C4_ : w3.cell? ⟨w.heap.size, 4, none⟩ = some (.slice A n c) := C3.out.cell 4
  have C5_ : w3.cell? ⟨w.heap.size, 5, none⟩ = some (.slice M m d) := C3.out.cell 5
  have Cl_ : w.heap.size < w3.heap.size := C3.out.lt
  have Cf_ := C3.out.frz
  have P0_ : w3.cell? ⟨w.heap.size + 1, 0, none⟩ = some (.int .u64 0) := P3.out.cell 0
  have P1_ : w3.cell? ⟨w.heap.size + 1, 1, none⟩ = some (.int .i64 0) := P3.out.cell 1
  have P2_ : w3.cell? ⟨w.heap.size + 1, 2, none⟩ = some (.bool false) := P3.out.cell 2
  have P3_ : w3.cell? ⟨w.heap.size + 1, 3, none⟩ = some (.int .u64 0) := P3.out.cell 3
  have P4_ : w3.cell? ⟨w.heap.size + 1, 4, none⟩ = some (.slice none 0 0) := P3.out.cell 4
  have P5_ : w3.cell? ⟨w.heap.size + 1, 5, none⟩ = some (.slice none 0 0) := P3.out.cell 5
  have Pl_ : w.heap.size + 1 < w3.heap.size := P3.out.lt
  have Pf_ := P3.out.frz
  have Q0_ : w3.cell? ⟨w.heap.size + 1 + 1, 0, none⟩ = some (.bool false) := Q3.out.cell 0
  have Q1_ : w3.cell? ⟨w.heap.size + 1 + 1, 1, none⟩ = some (.bool false) := Q3.out.cell 1
  have Q2_ : w3.cell? ⟨w.heap.size + 1 + 1, 2, none⟩ = some (.int .u64 0) := Q3.out.cell 2
  have Q3_ : w3.cell? ⟨w.heap.size + 1 + 1, 3, none⟩ = some (.slice none 0 0) := Q3.out.cell 3
  have Q4_ : w3.cell? ⟨w.heap.size + 1 + 1, 4, none⟩ = some (.slice none 0 0) := Q3.out.cell 4
  have Ql_ : w.heap.size + 1 + 1 < w3.heap.size := Q3.out.lt
  have Qf_ := Q3.out.frz
  have S0_ : w3.cell? ⟨w.heap.size + 1 + 1 + 1, 0, none⟩ = some (.bool false) := S3.out.cell 0
  have S1_ : w3.cell? ⟨w.heap.size + 1 + 1 + 1, 1, none⟩ = some (.bool false) := S3.out.cell 1
  have S2_ : w3.cell? ⟨w.heap.size + 1 + 1 + 1, 2, none⟩ = some (.int .u64 0) := S3.out.cell 2
  have S3_ : w3.cell? ⟨w.heap.size + 1 + 1 + 1, 3, none⟩ = some (.slice none 0 0) := S3.out.cell 3
  have S4_ : w3.cell? ⟨w.heap.size + 1 + 1 + 1, 4, none⟩ = some (.slice none 0 0) := S3.out.cell 4
  have Sl_ : w.heap.size + 1 + 1 + 1 < w3.heap.size := S3.out.lt
  have Sf_ := S3.out.frz
  go_wp2_with fail
  clear C0_ C1_ C2_ C3_ C4_ C5_ Cl_ Cf_ P0_ P1_ P2_ P3_ P4_ P5_ Pl_ Pf_ Q0_ Q1_ Q2_ Q3_ Q4_ Ql_ Qf_ S0_ S1_ S2_ S3_ S4_ Sl_ Sf_
  refine Code.gen (fun W => Blk W (w.heap.size) 32 #[.int .u64 win, .int .i64 most, .bool false, .int .u64 due, .slice none 0 0, .slice none 0 0] ∧ Blk W (w.heap.size + 1) 32 #[.int .u64 0, .int .i64 0, .bool false, .int .u64 0, .slice none 0 0, .slice none 0 0] ∧ Blk W (w.heap.size + 1 + 1) 45 #[.bool false, .bool false, .int .u64 0, .slice none 0 0, .slice none 0 0] ∧ Blk W (w.heap.size + 1 + 1 + 1) 45 #[.bool true, .bool true, .int .u64 due, .slice A2 1 c2, .slice M2 1 d2] ∧ Upd (fun _ => False) w W ∧ Kp W (KF w 4) A2 1 c2 (nums [arg]) ∧ Kp W (KF w 4) M2 1 d2 (prs [(id, 0)])) ⟨(((((((((((C3.out.set 4 (.slice A2 1 c2)).set 5 (.slice M2 1 d2)).far (p := ⟨w.heap.size + 1 + 1 + 1, 0, none⟩) (show w.heap.size ≠ w.heap.size + 1 + 1 + 1 by omega) (.bool true)).far (p := ⟨w.heap.size + 1 + 1 + 1, 2, none⟩) (show w.heap.size ≠ w.heap.size + 1 + 1 + 1 by omega) (.int .u64 due)).far (p := ⟨w.heap.size + 1 + 1 + 1, 1, none⟩) (show w.heap.size ≠ w.heap.size + 1 + 1 + 1 by omega) (.bool true)).far (p := ⟨w.heap.size + 1 + 1 + 1, 3, none⟩) (show w.heap.size ≠ w.heap.size + 1 + 1 + 1 by omega) (.slice A2 1 c2)).far (p := ⟨w.heap.size + 1 + 1 + 1, 4, none⟩) (show w.heap.size ≠ w.heap.size + 1 + 1 + 1 by omega) (.slice M2 1 d2)).set 2 (.bool false)).set 4 (.slice none 0 0)).set 5 (.slice none 0 0))), (((((((((((P3.out.far (p := ⟨w.heap.size, 4, none⟩) (show w.heap.size + 1 ≠ w.heap.size by omega) (.slice A2 1 c2)).far (p := ⟨w.heap.size, 5, none⟩) (show w.heap.size + 1 ≠ w.heap.size by omega) (.slice M2 1 d2)).far (p := ⟨w.heap.size + 1 + 1 + 1, 0, none⟩) (show w.heap.size + 1 ≠ w.heap.size + 1 + 1 + 1 by omega) (.bool true)).far (p := ⟨w.heap.size + 1 + 1 + 1, 2, none⟩) (show w.heap.size + 1 ≠ w.heap.size + 1 + 1 + 1 by omega) (.int .u64 due)).far (p := ⟨w.heap.size + 1 + 1 + 1, 1, none⟩) (show w.heap.size + 1 ≠ w.heap.size + 1 + 1 + 1 by omega) (.bool true)).far (p := ⟨w.heap.size + 1 + 1 + 1, 3, none⟩) (show w.heap.size + 1 ≠ w.heap.size + 1 + 1 + 1 by omega) (.slice A2 1 c2)).far (p := ⟨w.heap.size + 1 + 1 + 1, 4, none⟩) (show w.heap.size + 1 ≠ w.heap.size + 1 + 1 + 1 by omega) (.slice M2 1 d2)).far (p := ⟨w.heap.size, 2, none⟩) (show w.heap.size + 1 ≠ w.heap.size by omega) (.bool false)).far (p := ⟨w.heap.size, 4, none⟩) (show w.heap.size + 1 ≠ w.heap.size by omega) (.slice none 0 0)).far (p := ⟨w.heap.size, 5, none⟩) (show w.heap.size + 1 ≠ w.heap.size by omega) (.slice none 0 0))), (((((((((((Q3.out.far (p := ⟨w.heap.size, 4, none⟩) (show w.heap.size + 1 + 1 ≠ w.heap.size by omega) (.slice A2 1 c2)).far (p := ⟨w.heap.size, 5, none⟩) (show w.heap.size + 1 + 1 ≠ w.heap.size by omega) (.slice M2 1 d2)).far (p := ⟨w.heap.size + 1 + 1 + 1, 0, none⟩) (show w.heap.size + 1 + 1 ≠ w.heap.size + 1 + 1 + 1 by omega) (.bool true)).far (p := ⟨w.heap.size + 1 + 1 + 1, 2, none⟩) (show w.heap.size + 1 + 1 ≠ w.heap.size + 1 + 1 + 1 by omega) (.int .u64 due)).far (p := ⟨w.heap.size + 1 + 1 + 1, 1, none⟩) (show w.heap.size + 1 + 1 ≠ w.heap.size + 1 + 1 + 1 by omega) (.bool true)).far (p := ⟨w.heap.size + 1 + 1 + 1, 3, none⟩) (show w.heap.size + 1 + 1 ≠ w.heap.size + 1 + 1 + 1 by omega) (.slice A2 1 c2)).far (p := ⟨w.heap.size + 1 + 1 + 1, 4, none⟩) (show w.heap.size + 1 + 1 ≠ w.heap.size + 1 + 1 + 1 by omega) (.slice M2 1 d2)).far (p := ⟨w.heap.size, 2, none⟩) (show w.heap.size + 1 + 1 ≠ w.heap.size by omega) (.bool false)).far (p := ⟨w.heap.size, 4, none⟩) (show w.heap.size + 1 + 1 ≠ w.heap.size by omega) (.slice none 0 0)).far (p := ⟨w.heap.size, 5, none⟩) (show w.heap.size + 1 + 1 ≠ w.heap.size by omega) (.slice none 0 0))), (((((((((((S3.out.far (p := ⟨w.heap.size, 4, none⟩) (show w.heap.size + 1 + 1 + 1 ≠ w.heap.size by omega) (.slice A2 1 c2)).far (p := ⟨w.heap.size, 5, none⟩) (show w.heap.size + 1 + 1 + 1 ≠ w.heap.size by omega) (.slice M2 1 d2)).set 0 (.bool true)).set 2 (.int .u64 due)).set 1 (.bool true)).set 3 (.slice A2 1 c2)).set 4 (.slice M2 1 d2)).far (p := ⟨w.heap.size, 2, none⟩) (show w.heap.size + 1 + 1 + 1 ≠ w.heap.size by omega) (.bool false)).far (p := ⟨w.heap.size, 4, none⟩) (show w.heap.size + 1 + 1 + 1 ≠ w.heap.size by omega) (.slice none 0 0)).far (p := ⟨w.heap.size, 5, none⟩) (show w.heap.size + 1 + 1 + 1 ≠ w.heap.size by omega) (.slice none 0 0))), (((((((((((U3.out.set (p := ⟨w.heap.size, 4, none⟩) (.inr (show w.heap.size ≤ w.heap.size by omega)) (.slice A2 1 c2)).set (p := ⟨w.heap.size, 5, none⟩) (.inr (show w.heap.size ≤ w.heap.size by omega)) (.slice M2 1 d2)).set (p := ⟨w.heap.size + 1 + 1 + 1, 0, none⟩) (.inr (show w.heap.size ≤ w.heap.size + 1 + 1 + 1 by omega)) (.bool true)).set (p := ⟨w.heap.size + 1 + 1 + 1, 2, none⟩) (.inr (show w.heap.size ≤ w.heap.size + 1 + 1 + 1 by omega)) (.int .u64 due)).set (p := ⟨w.heap.size + 1 + 1 + 1, 1, none⟩) (.inr (show w.heap.size ≤ w.heap.size + 1 + 1 + 1 by omega)) (.bool true)).set (p := ⟨w.heap.size + 1 + 1 + 1, 3, none⟩) (.inr (show w.heap.size ≤ w.heap.size + 1 + 1 + 1 by omega)) (.slice A2 1 c2)).set (p := ⟨w.heap.size + 1 + 1 + 1, 4, none⟩) (.inr (show w.heap.size ≤ w.heap.size + 1 + 1 + 1 by omega)) (.slice M2 1 d2)).set (p := ⟨w.heap.size, 2, none⟩) (.inr (show w.heap.size ≤ w.heap.size by omega)) (.bool false)).set (p := ⟨w.heap.size, 4, none⟩) (.inr (show w.heap.size ≤ w.heap.size by omega)) (.slice none 0 0)).set (p := ⟨w.heap.size, 5, none⟩) (.inr (show w.heap.size ≤ w.heap.size by omega)) (.slice none 0 0))), KA3.out.keep ((((((((((((Upd.refl (KF w 4) w3).set (p := ⟨w.heap.size, 4, none⟩) (.inl (show KF w 4 (w.heap.size) from ⟨by omega, by omega⟩)) (.slice A2 1 c2)).set (p := ⟨w.heap.size, 5, none⟩) (.inl (show KF w 4 (w.heap.size) from ⟨by omega, by omega⟩)) (.slice M2 1 d2)).set (p := ⟨w.heap.size + 1 + 1 + 1, 0, none⟩) (.inl (show KF w 4 (w.heap.size + 1 + 1 + 1) from ⟨by omega, by omega⟩)) (.bool true)).set (p := ⟨w.heap.size + 1 + 1 + 1, 2, none⟩) (.inl (show KF w 4 (w.heap.size + 1 + 1 + 1) from ⟨by omega, by omega⟩)) (.int .u64 due)).set (p := ⟨w.heap.size + 1 + 1 + 1, 1, none⟩) (.inl (show KF w 4 (w.heap.size + 1 + 1 + 1) from ⟨by omega, by omega⟩)) (.bool true)).set (p := ⟨w.heap.size + 1 + 1 + 1, 3, none⟩) (.inl (show KF w 4 (w.heap.size + 1 + 1 + 1) from ⟨by omega, by omega⟩)) (.slice A2 1 c2)).set (p := ⟨w.heap.size + 1 + 1 + 1, 4, none⟩) (.inl (show KF w 4 (w.heap.size + 1 + 1 + 1) from ⟨by omega, by omega⟩)) (.slice M2 1 d2)).set (p := ⟨w.heap.size, 2, none⟩) (.inl (show KF w 4 (w.heap.size) from ⟨by omega, by omega⟩)) (.bool false)).set (p := ⟨w.heap.size, 4, none⟩) (.inl (show KF w 4 (w.heap.size) from ⟨by omega, by omega⟩)) (.slice none 0 0)).set (p := ⟨w.heap.size, 5, none⟩) (.inl (show KF w 4 (w.heap.size) from ⟨by omega, by omega⟩)) (.slice none 0 0))) (fun _ h => h), KM3.out.keep ((((((((((((Upd.refl (KF w 4) w3).set (p := ⟨w.heap.size, 4, none⟩) (.inl (show KF w 4 (w.heap.size) from ⟨by omega, by omega⟩)) (.slice A2 1 c2)).set (p := ⟨w.heap.size, 5, none⟩) (.inl (show KF w 4 (w.heap.size) from ⟨by omega, by omega⟩)) (.slice M2 1 d2)).set (p := ⟨w.heap.size + 1 + 1 + 1, 0, none⟩) (.inl (show KF w 4 (w.heap.size + 1 + 1 + 1) from ⟨by omega, by omega⟩)) (.bool true)).set (p := ⟨w.heap.size + 1 + 1 + 1, 2, none⟩) (.inl (show KF w 4 (w.heap.size + 1 + 1 + 1) from ⟨by omega, by omega⟩)) (.int .u64 due)).set (p := ⟨w.heap.size + 1 + 1 + 1, 1, none⟩) (.inl (show KF w 4 (w.heap.size + 1 + 1 + 1) from ⟨by omega, by omega⟩)) (.bool true)).set (p := ⟨w.heap.size + 1 + 1 + 1, 3, none⟩) (.inl (show KF w 4 (w.heap.size + 1 + 1 + 1) from ⟨by omega, by omega⟩)) (.slice A2 1 c2)).set (p := ⟨w.heap.size + 1 + 1 + 1, 4, none⟩) (.inl (show KF w 4 (w.heap.size + 1 + 1 + 1) from ⟨by omega, by omega⟩)) (.slice M2 1 d2)).set (p := ⟨w.heap.size, 2, none⟩) (.inl (show KF w 4 (w.heap.size) from ⟨by omega, by omega⟩)) (.bool false)).set (p := ⟨w.heap.size, 4, none⟩) (.inl (show KF w 4 (w.heap.size) from ⟨by omega, by omega⟩)) (.slice none 0 0)).set (p := ⟨w.heap.size, 5, none⟩) (.inl (show KF w 4 (w.heap.size) from ⟨by omega, by omega⟩)) (.slice none 0 0))) (fun _ h => h)⟩ ?_
  rintro w4 ⟨qC, qP, qQ, qS, qU, qKA, qKM⟩
  have C4 := Lib.hid qC
  have P4 := Lib.hid qP
  have Q4 := Lib.hid qQ
  have S4 := Lib.hid qS
  have U4 := Lib.hid qU
  have KA4 := Lib.hid qKA
  have KM4 := Lib.hid qKM
  clear qC qP qQ qS qU qKA qKM
  clear C3 P3 Q3 S3 U3 KA3 KM3
  have C0_ : w4.cell? ⟨w.heap.size, 0, none⟩ = some (.int .u64 win) := C4.out.cell 0
  have C1_ : w4.cell? ⟨w.heap.size, 1, none⟩ = some (.int .i64 most) := C4.out.cell 1
  have C2_ : w4.cell? ⟨w.heap.size, 2, none⟩ = some (.bool false) := C4.out.cell 2
  have C3_ : w4.cell? ⟨w.heap.size, 3, none⟩ = some (.int .u64 due) := C4.out.cell 3
  have C4_ : w4.cell? ⟨w.heap.size, 4, none⟩ = some (.slice none 0 0) := C4.out.cell 4
  have C5_ : w4.cell? ⟨w.heap.size, 5, none⟩ = some (.slice none 0 0) := C4.out.cell 5
  have Cl_ : w.heap.size < w4.heap.size := C4.out.lt
  have Cf_ := C4.out.frz
  have P0_ : w4.cell? ⟨w.heap.size + 1, 0, none⟩ = some (.int .u64 0) := P4.out.cell 0
  have P1_ : w4.cell? ⟨w.heap.size + 1, 1, none⟩ = some (.int .i64 0) := P4.out.cell 1
  have P2_ : w4.cell? ⟨w.heap.size + 1, 2, none⟩ = some (.bool false) := P4.out.cell 2
  have P3_ : w4.cell? ⟨w.heap.size + 1, 3, none⟩ = some (.int .u64 0) := P4.out.cell 3
  have P4_ : w4.cell? ⟨w.heap.size + 1, 4, none⟩ = some (.slice none 0 0) := P4.out.cell 4
  have P5_ : w4.cell? ⟨w.heap.size + 1, 5, none⟩ = some (.slice none 0 0) := P4.out.cell 5
  have Pl_ : w.heap.size + 1 < w4.heap.size := P4.out.lt
  have Pf_ := P4.out.frz
  have Q0_ : w4.cell? ⟨w.heap.size + 1 + 1, 0, none⟩ = some (.bool false) := Q4.out.cell 0
  have Q1_ : w4.cell? ⟨w.heap.size + 1 + 1, 1, none⟩ = some (.bool false) := Q4.out.cell 1
  have Q2_ : w4.cell? ⟨w.heap.size + 1 + 1, 2, none⟩ = some (.int .u64 0) := Q4.out.cell 2
  have Q3_ : w4.cell? ⟨w.heap.size + 1 + 1, 3, none⟩ = some (.slice none 0 0) := Q4.out.cell 3
  have Q4_ : w4.cell? ⟨w.heap.size + 1 + 1, 4, none⟩ = some (.slice none 0 0) := Q4.out.cell 4
  have Ql_ : w.heap.size + 1 + 1 < w4.heap.size := Q4.out.lt
  have Qf_ := Q4.out.frz
  have S0_ : w4.cell? ⟨w.heap.size + 1 + 1 + 1, 0, none⟩ = some (.bool true) := S4.out.cell 0
  have S1_ : w4.cell? ⟨w.heap.size + 1 + 1 + 1, 1, none⟩ = some (.bool true) := S4.out.cell 1
  have S2_ : w4.cell? ⟨w.heap.size + 1 + 1 + 1, 2, none⟩ = some (.int .u64 due) := S4.out.cell 2
  have S3_ : w4.cell? ⟨w.heap.size + 1 + 1 + 1, 3, none⟩ = some (.slice A2 1 c2) := S4.out.cell 3
  have S4_ : w4.cell? ⟨w.heap.size + 1 + 1 + 1, 4, none⟩ = some (.slice M2 1 d2) := S4.out.cell 4
  have Sl_ : w.heap.size + 1 + 1 + 1 < w4.heap.size := S4.out.lt
  have Sf_ := S4.out.frz
  have nCP := cell_far (show w.heap.size ≠ w.heap.size + 1 by omega)
  have nCQ := cell_far (show w.heap.size ≠ w.heap.size + 1 + 1 by omega)
  have nSP := cell_far (show w.heap.size + 1 + 1 + 1 ≠ w.heap.size + 1 by omega)
  have nSQ := cell_far (show w.heap.size + 1 + 1 + 1 ≠ w.heap.size + 1 + 1 by omega)
  go_region_held3 (fun w' => w'.cell? ⟨w.heap.size, 0, none⟩ = some (.int .u64 win) ∧ w'.cell? ⟨w.heap.size, 1, none⟩ = some (.int .i64 most) ∧ w'.cell? ⟨w.heap.size, 2, none⟩ = some (.bool false) ∧ w'.cell? ⟨w.heap.size, 3, none⟩ = some (.int .u64 due) ∧ w'.cell? ⟨w.heap.size, 4, none⟩ = some (.slice none 0 0) ∧ w'.cell? ⟨w.heap.size, 5, none⟩ = some (.slice none 0 0) ∧ w'.cell? ⟨w.heap.size + 1 + 1 + 1, 0, none⟩ = some (.bool true) ∧ w'.cell? ⟨w.heap.size + 1 + 1 + 1, 1, none⟩ = some (.bool true) ∧ w'.cell? ⟨w.heap.size + 1 + 1 + 1, 2, none⟩ = some (.int .u64 due) ∧ w'.cell? ⟨w.heap.size + 1 + 1 + 1, 3, none⟩ = some (.slice A2 1 c2) ∧ w'.cell? ⟨w.heap.size + 1 + 1 + 1, 4, none⟩ = some (.slice M2 1 d2)) (first | go_keep | (simp only [nCP, nCQ, nSP, nSQ, cell_drew]; exact ⟨C0_, C1_, C2_, C3_, C4_, C5_, S0_, S1_, S2_, S3_, S4_⟩)) (fail)
  clear nCP nCQ nSP nSQ
  clear C0_ C1_ C2_ C3_ C4_ C5_ Cl_ Cf_ P0_ P1_ P2_ P3_ P4_ P5_ Pl_ Pf_ Q0_ Q1_ Q2_ Q3_ Q4_ Ql_ Qf_ S0_ S1_ S2_ S3_ S4_ Sl_ Sf_
  have PF : Hid (Blk (((((((((((w4.setCell ⟨w.heap.size + 1, 0, none⟩ (.int .u64 win)).setCell ⟨w.heap.size + 1, 1, none⟩ (.int .i64 most)).setCell ⟨w.heap.size + 1, 2, none⟩ (.bool false)).setCell ⟨w.heap.size + 1, 3, none⟩ (.int .u64 due)).setCell ⟨w.heap.size + 1, 4, none⟩ (.slice none 0 0)).setCell ⟨w.heap.size + 1, 5, none⟩ (.slice none 0 0)).setCell ⟨w.heap.size + 1 + 1, 0, none⟩ (.bool true)).setCell ⟨w.heap.size + 1 + 1, 1, none⟩ (.bool true)).setCell ⟨w.heap.size + 1 + 1, 2, none⟩ (.int .u64 due)).setCell ⟨w.heap.size + 1 + 1, 3, none⟩ (.slice A2 1 c2)).setCell ⟨w.heap.size + 1 + 1, 4, none⟩ (.slice M2 1 d2)).drew (w.heap.size + 1) 32 #[.int .u64 win, .int .i64 most, .bool false, .int .u64 due, .slice none 0 0, .slice none 0 0]) := Lib.hid ((((((((((((P4.out.set 0 (.int .u64 win)).set 1 (.int .i64 most)).set 2 (.bool false)).set 3 (.int .u64 due)).set 4 (.slice none 0 0)).set 5 (.slice none 0 0)).far (p := ⟨w.heap.size + 1 + 1, 0, none⟩) (show w.heap.size + 1 ≠ w.heap.size + 1 + 1 by omega) (.bool true)).far (p := ⟨w.heap.size + 1 + 1, 1, none⟩) (show w.heap.size + 1 ≠ w.heap.size + 1 + 1 by omega) (.bool true)).far (p := ⟨w.heap.size + 1 + 1, 2, none⟩) (show w.heap.size + 1 ≠ w.heap.size + 1 + 1 by omega) (.int .u64 due)).far (p := ⟨w.heap.size + 1 + 1, 3, none⟩) (show w.heap.size + 1 ≠ w.heap.size + 1 + 1 by omega) (.slice A2 1 c2)).far (p := ⟨w.heap.size + 1 + 1, 4, none⟩) (show w.heap.size + 1 ≠ w.heap.size + 1 + 1 by omega) (.slice M2 1 d2)).drew)
  have QF : Hid (Blk (((((((((((w4.setCell ⟨w.heap.size + 1, 0, none⟩ (.int .u64 win)).setCell ⟨w.heap.size + 1, 1, none⟩ (.int .i64 most)).setCell ⟨w.heap.size + 1, 2, none⟩ (.bool false)).setCell ⟨w.heap.size + 1, 3, none⟩ (.int .u64 due)).setCell ⟨w.heap.size + 1, 4, none⟩ (.slice none 0 0)).setCell ⟨w.heap.size + 1, 5, none⟩ (.slice none 0 0)).setCell ⟨w.heap.size + 1 + 1, 0, none⟩ (.bool true)).setCell ⟨w.heap.size + 1 + 1, 1, none⟩ (.bool true)).setCell ⟨w.heap.size + 1 + 1, 2, none⟩ (.int .u64 due)).setCell ⟨w.heap.size + 1 + 1, 3, none⟩ (.slice A2 1 c2)).setCell ⟨w.heap.size + 1 + 1, 4, none⟩ (.slice M2 1 d2)).drew (w.heap.size + 1 + 1) 45 #[.bool true, .bool true, .int .u64 due, .slice A2 1 c2, .slice M2 1 d2]) := Lib.hid ((((((((((((Q4.out.far (p := ⟨w.heap.size + 1, 0, none⟩) (show w.heap.size + 1 + 1 ≠ w.heap.size + 1 by omega) (.int .u64 win)).far (p := ⟨w.heap.size + 1, 1, none⟩) (show w.heap.size + 1 + 1 ≠ w.heap.size + 1 by omega) (.int .i64 most)).far (p := ⟨w.heap.size + 1, 2, none⟩) (show w.heap.size + 1 + 1 ≠ w.heap.size + 1 by omega) (.bool false)).far (p := ⟨w.heap.size + 1, 3, none⟩) (show w.heap.size + 1 + 1 ≠ w.heap.size + 1 by omega) (.int .u64 due)).far (p := ⟨w.heap.size + 1, 4, none⟩) (show w.heap.size + 1 + 1 ≠ w.heap.size + 1 by omega) (.slice none 0 0)).far (p := ⟨w.heap.size + 1, 5, none⟩) (show w.heap.size + 1 + 1 ≠ w.heap.size + 1 by omega) (.slice none 0 0)).set 0 (.bool true)).set 1 (.bool true)).set 2 (.int .u64 due)).set 3 (.slice A2 1 c2)).set 4 (.slice M2 1 d2)).drew)
  have UF : Hid (Upd (fun _ => False) w (((((((((((w4.setCell ⟨w.heap.size + 1, 0, none⟩ (.int .u64 win)).setCell ⟨w.heap.size + 1, 1, none⟩ (.int .i64 most)).setCell ⟨w.heap.size + 1, 2, none⟩ (.bool false)).setCell ⟨w.heap.size + 1, 3, none⟩ (.int .u64 due)).setCell ⟨w.heap.size + 1, 4, none⟩ (.slice none 0 0)).setCell ⟨w.heap.size + 1, 5, none⟩ (.slice none 0 0)).setCell ⟨w.heap.size + 1 + 1, 0, none⟩ (.bool true)).setCell ⟨w.heap.size + 1 + 1, 1, none⟩ (.bool true)).setCell ⟨w.heap.size + 1 + 1, 2, none⟩ (.int .u64 due)).setCell ⟨w.heap.size + 1 + 1, 3, none⟩ (.slice A2 1 c2)).setCell ⟨w.heap.size + 1 + 1, 4, none⟩ (.slice M2 1 d2)).drew) := Lib.hid ((((((((((((U4.out.set (p := ⟨w.heap.size + 1, 0, none⟩) (.inr (show w.heap.size ≤ w.heap.size + 1 by omega)) (.int .u64 win)).set (p := ⟨w.heap.size + 1, 1, none⟩) (.inr (show w.heap.size ≤ w.heap.size + 1 by omega)) (.int .i64 most)).set (p := ⟨w.heap.size + 1, 2, none⟩) (.inr (show w.heap.size ≤ w.heap.size + 1 by omega)) (.bool false)).set (p := ⟨w.heap.size + 1, 3, none⟩) (.inr (show w.heap.size ≤ w.heap.size + 1 by omega)) (.int .u64 due)).set (p := ⟨w.heap.size + 1, 4, none⟩) (.inr (show w.heap.size ≤ w.heap.size + 1 by omega)) (.slice none 0 0)).set (p := ⟨w.heap.size + 1, 5, none⟩) (.inr (show w.heap.size ≤ w.heap.size + 1 by omega)) (.slice none 0 0)).set (p := ⟨w.heap.size + 1 + 1, 0, none⟩) (.inr (show w.heap.size ≤ w.heap.size + 1 + 1 by omega)) (.bool true)).set (p := ⟨w.heap.size + 1 + 1, 1, none⟩) (.inr (show w.heap.size ≤ w.heap.size + 1 + 1 by omega)) (.bool true)).set (p := ⟨w.heap.size + 1 + 1, 2, none⟩) (.inr (show w.heap.size ≤ w.heap.size + 1 + 1 by omega)) (.int .u64 due)).set (p := ⟨w.heap.size + 1 + 1, 3, none⟩) (.inr (show w.heap.size ≤ w.heap.size + 1 + 1 by omega)) (.slice A2 1 c2)).set (p := ⟨w.heap.size + 1 + 1, 4, none⟩) (.inr (show w.heap.size ≤ w.heap.size + 1 + 1 by omega)) (.slice M2 1 d2)).drew)
  have AF : Hid (Sl (((((((((((w4.setCell ⟨w.heap.size + 1, 0, none⟩ (.int .u64 win)).setCell ⟨w.heap.size + 1, 1, none⟩ (.int .i64 most)).setCell ⟨w.heap.size + 1, 2, none⟩ (.bool false)).setCell ⟨w.heap.size + 1, 3, none⟩ (.int .u64 due)).setCell ⟨w.heap.size + 1, 4, none⟩ (.slice none 0 0)).setCell ⟨w.heap.size + 1, 5, none⟩ (.slice none 0 0)).setCell ⟨w.heap.size + 1 + 1, 0, none⟩ (.bool true)).setCell ⟨w.heap.size + 1 + 1, 1, none⟩ (.bool true)).setCell ⟨w.heap.size + 1 + 1, 2, none⟩ (.int .u64 due)).setCell ⟨w.heap.size + 1 + 1, 3, none⟩ (.slice A2 1 c2)).setCell ⟨w.heap.size + 1 + 1, 4, none⟩ (.slice M2 1 d2)).drew A2 1 c2 (nums [arg])) := Lib.hid (KA4.out.keep (((((((((((((Upd.refl (KF w 4) w4).set (p := ⟨w.heap.size + 1, 0, none⟩) (.inl (show KF w 4 (w.heap.size + 1) from ⟨by omega, by omega⟩)) (.int .u64 win)).set (p := ⟨w.heap.size + 1, 1, none⟩) (.inl (show KF w 4 (w.heap.size + 1) from ⟨by omega, by omega⟩)) (.int .i64 most)).set (p := ⟨w.heap.size + 1, 2, none⟩) (.inl (show KF w 4 (w.heap.size + 1) from ⟨by omega, by omega⟩)) (.bool false)).set (p := ⟨w.heap.size + 1, 3, none⟩) (.inl (show KF w 4 (w.heap.size + 1) from ⟨by omega, by omega⟩)) (.int .u64 due)).set (p := ⟨w.heap.size + 1, 4, none⟩) (.inl (show KF w 4 (w.heap.size + 1) from ⟨by omega, by omega⟩)) (.slice none 0 0)).set (p := ⟨w.heap.size + 1, 5, none⟩) (.inl (show KF w 4 (w.heap.size + 1) from ⟨by omega, by omega⟩)) (.slice none 0 0)).set (p := ⟨w.heap.size + 1 + 1, 0, none⟩) (.inl (show KF w 4 (w.heap.size + 1 + 1) from ⟨by omega, by omega⟩)) (.bool true)).set (p := ⟨w.heap.size + 1 + 1, 1, none⟩) (.inl (show KF w 4 (w.heap.size + 1 + 1) from ⟨by omega, by omega⟩)) (.bool true)).set (p := ⟨w.heap.size + 1 + 1, 2, none⟩) (.inl (show KF w 4 (w.heap.size + 1 + 1) from ⟨by omega, by omega⟩)) (.int .u64 due)).set (p := ⟨w.heap.size + 1 + 1, 3, none⟩) (.inl (show KF w 4 (w.heap.size + 1 + 1) from ⟨by omega, by omega⟩)) (.slice A2 1 c2)).set (p := ⟨w.heap.size + 1 + 1, 4, none⟩) (.inl (show KF w 4 (w.heap.size + 1 + 1) from ⟨by omega, by omega⟩)) (.slice M2 1 d2)).drew) (fun _ h => h)).sl
  have MF : Hid (Sl (((((((((((w4.setCell ⟨w.heap.size + 1, 0, none⟩ (.int .u64 win)).setCell ⟨w.heap.size + 1, 1, none⟩ (.int .i64 most)).setCell ⟨w.heap.size + 1, 2, none⟩ (.bool false)).setCell ⟨w.heap.size + 1, 3, none⟩ (.int .u64 due)).setCell ⟨w.heap.size + 1, 4, none⟩ (.slice none 0 0)).setCell ⟨w.heap.size + 1, 5, none⟩ (.slice none 0 0)).setCell ⟨w.heap.size + 1 + 1, 0, none⟩ (.bool true)).setCell ⟨w.heap.size + 1 + 1, 1, none⟩ (.bool true)).setCell ⟨w.heap.size + 1 + 1, 2, none⟩ (.int .u64 due)).setCell ⟨w.heap.size + 1 + 1, 3, none⟩ (.slice A2 1 c2)).setCell ⟨w.heap.size + 1 + 1, 4, none⟩ (.slice M2 1 d2)).drew M2 1 d2 (prs [(id, 0)])) := Lib.hid (KM4.out.keep (((((((((((((Upd.refl (KF w 4) w4).set (p := ⟨w.heap.size + 1, 0, none⟩) (.inl (show KF w 4 (w.heap.size + 1) from ⟨by omega, by omega⟩)) (.int .u64 win)).set (p := ⟨w.heap.size + 1, 1, none⟩) (.inl (show KF w 4 (w.heap.size + 1) from ⟨by omega, by omega⟩)) (.int .i64 most)).set (p := ⟨w.heap.size + 1, 2, none⟩) (.inl (show KF w 4 (w.heap.size + 1) from ⟨by omega, by omega⟩)) (.bool false)).set (p := ⟨w.heap.size + 1, 3, none⟩) (.inl (show KF w 4 (w.heap.size + 1) from ⟨by omega, by omega⟩)) (.int .u64 due)).set (p := ⟨w.heap.size + 1, 4, none⟩) (.inl (show KF w 4 (w.heap.size + 1) from ⟨by omega, by omega⟩)) (.slice none 0 0)).set (p := ⟨w.heap.size + 1, 5, none⟩) (.inl (show KF w 4 (w.heap.size + 1) from ⟨by omega, by omega⟩)) (.slice none 0 0)).set (p := ⟨w.heap.size + 1 + 1, 0, none⟩) (.inl (show KF w 4 (w.heap.size + 1 + 1) from ⟨by omega, by omega⟩)) (.bool true)).set (p := ⟨w.heap.size + 1 + 1, 1, none⟩) (.inl (show KF w 4 (w.heap.size + 1 + 1) from ⟨by omega, by omega⟩)) (.bool true)).set (p := ⟨w.heap.size + 1 + 1, 2, none⟩) (.inl (show KF w 4 (w.heap.size + 1 + 1) from ⟨by omega, by omega⟩)) (.int .u64 due)).set (p := ⟨w.heap.size + 1 + 1, 3, none⟩) (.inl (show KF w 4 (w.heap.size + 1 + 1) from ⟨by omega, by omega⟩)) (.slice A2 1 c2)).set (p := ⟨w.heap.size + 1 + 1, 4, none⟩) (.inl (show KF w 4 (w.heap.size + 1 + 1) from ⟨by omega, by omega⟩)) (.slice M2 1 d2)).drew) (fun _ h => h)).sl
  generalize (((((((((((w4.setCell ⟨w.heap.size + 1, 0, none⟩ (.int .u64 win)).setCell ⟨w.heap.size + 1, 1, none⟩ (.int .i64 most)).setCell ⟨w.heap.size + 1, 2, none⟩ (.bool false)).setCell ⟨w.heap.size + 1, 3, none⟩ (.int .u64 due)).setCell ⟨w.heap.size + 1, 4, none⟩ (.slice none 0 0)).setCell ⟨w.heap.size + 1, 5, none⟩ (.slice none 0 0)).setCell ⟨w.heap.size + 1 + 1, 0, none⟩ (.bool true)).setCell ⟨w.heap.size + 1 + 1, 1, none⟩ (.bool true)).setCell ⟨w.heap.size + 1 + 1, 2, none⟩ (.int .u64 due)).setCell ⟨w.heap.size + 1 + 1, 3, none⟩ (.slice A2 1 c2)).setCell ⟨w.heap.size + 1 + 1, 4, none⟩ (.slice M2 1 d2)).drew = w5 at *
  have p0 : w5.cell? ⟨w.heap.size + 1, 0, none⟩ = some (.int .u64 win) := PF.out.cell 0
  have p1 : w5.cell? ⟨w.heap.size + 1, 1, none⟩ = some (.int .i64 most) := PF.out.cell 1
  have p2 : w5.cell? ⟨w.heap.size + 1, 2, none⟩ = some (.bool false) := PF.out.cell 2
  have p3 : w5.cell? ⟨w.heap.size + 1, 3, none⟩ = some (.int .u64 due) := PF.out.cell 3
  have p4 : w5.cell? ⟨w.heap.size + 1, 4, none⟩ = some (.slice none 0 0) := PF.out.cell 4
  have p5 : w5.cell? ⟨w.heap.size + 1, 5, none⟩ = some (.slice none 0 0) := PF.out.cell 5
  have q0 : w5.cell? ⟨w.heap.size + 1 + 1, 0, none⟩ = some (.bool true) := QF.out.cell 0
  have q1 : w5.cell? ⟨w.heap.size + 1 + 1, 1, none⟩ = some (.bool true) := QF.out.cell 1
  have q2 : w5.cell? ⟨w.heap.size + 1 + 1, 2, none⟩ = some (.int .u64 due) := QF.out.cell 2
  have q3 : w5.cell? ⟨w.heap.size + 1 + 1, 3, none⟩ = some (.slice A2 1 c2) := QF.out.cell 3
  have q4 : w5.cell? ⟨w.heap.size + 1 + 1, 4, none⟩ = some (.slice M2 1 d2) := QF.out.cell 4
  have lP := PF.out.lt
  have lQ := QF.out.lt
  go_wp2
  refine bodyPost_ret (v := .tuple #[.agg #[.int .u64 win, .int .i64 most, .bool false, .int .u64 due, .slice none 0 0, .slice none 0 0], .agg #[.bool true, .bool true, .int .u64 due, .slice A2 1 c2, .slice M2 1 d2]]) (by simp [results, Try.results14, go_sem, p0, p1, p2, p3, p4, p5, q0, q1, q2, q3, q4, lP, lQ]) rfl ⟨A2, c2, M2, d2, rfl, AF.out, MF.out, NA.out, NM.out, UF.out.below0⟩
set_option maxRecDepth 100000 in
set_option maxHeartbeats 4000000 in
theorem radd_new_more {win most now id arg due e : Int} {A M : Option Addr} {n c m d : Nat} (hr : ¬ most ≤ (1 : Int)) (hw : W64 win) (hn : W64 now) (hd : sat now win = due) (w : World) :
    Calls Try.prog 14 #[.agg #[.int .u64 win, .int .i64 most, .bool false, .int .u64 e, .slice A n c, .slice M m d], .int .u64 now, .int .i64 id, .int .i64 arg] w fun e_ w' => ∃ A2 c2 M2 d2, e_ = .returned (.tuple #[.agg #[.int .u64 win, .int .i64 most, .bool true, .int .u64 due, .slice A2 1 c2, .slice M2 1 d2], .agg #[.bool true, .bool false, .int .u64 due, .slice none 0 0, .slice none 0 0]]) ∧ Sl w' A2 1 c2 (nums [arg]) ∧ Sl w' M2 1 d2 (prs [(id, 0)]) ∧ (∀ b o, A2 = some ⟨b, o, none⟩ → w.heap.size ≤ b) ∧ (∀ b o, M2 = some ⟨b, o, none⟩ → w.heap.size ≤ b) ∧ Below w.heap.size w w' := by
  have HW := Lib.hid hw
  have HN := Lib.hid hn
  have HD := Lib.hid hd
  have C0 := Lib.hid ((((Blk.new w #[.int .u64 win, .int .i64 most, .bool true, .int .u64 e, .slice A n c, .slice M m d] 32).alloc (.cells #[.int .u64 0, .int .i64 0, .bool false, .int .u64 0, .slice none 0 0, .slice none 0 0] 32)).alloc (.cells #[.bool false, .bool false, .int .u64 0, .slice none 0 0, .slice none 0 0] 45)).alloc (.cells #[.bool false, .bool false, .int .u64 0, .slice none 0 0, .slice none 0 0] 45))
  have P0 := Lib.hid (((Blk.new1 w (.cells #[.int .u64 win, .int .i64 most, .bool true, .int .u64 e, .slice A n c, .slice M m d] 32) #[.int .u64 0, .int .i64 0, .bool false, .int .u64 0, .slice none 0 0, .slice none 0 0] 32).alloc (.cells #[.bool false, .bool false, .int .u64 0, .slice none 0 0, .slice none 0 0] 45)).alloc (.cells #[.bool false, .bool false, .int .u64 0, .slice none 0 0, .slice none 0 0] 45))
  have Q0 := Lib.hid ((Blk.new2 w (.cells #[.int .u64 win, .int .i64 most, .bool true, .int .u64 e, .slice A n c, .slice M m d] 32) (.cells #[.int .u64 0, .int .i64 0, .bool false, .int .u64 0, .slice none 0 0, .slice none 0 0] 32) #[.bool false, .bool false, .int .u64 0, .slice none 0 0, .slice none 0 0] 45).alloc (.cells #[.bool false, .bool false, .int .u64 0, .slice none 0 0, .slice none 0 0] 45))
  have S0 := Lib.hid (Blk.new3 w (.cells #[.int .u64 win, .int .i64 most, .bool true, .int .u64 e, .slice A n c, .slice M m d] 32) (.cells #[.int .u64 0, .int .i64 0, .bool false, .int .u64 0, .slice none 0 0, .slice none 0 0] 32) (.cells #[.bool false, .bool false, .int .u64 0, .slice none 0 0, .slice none 0 0] 45) #[.bool false, .bool false, .int .u64 0, .slice none 0 0, .slice none 0 0] 45)
  have U0 : Hid (Upd (fun _ => False) w _) := Lib.hid (((((Upd.refl (fun _ => False) w).alloc (.cells #[.int .u64 win, .int .i64 most, .bool true, .int .u64 e, .slice A n c, .slice M m d] 32)).alloc (.cells #[.int .u64 0, .int .i64 0, .bool false, .int .u64 0, .slice none 0 0, .slice none 0 0] 32)).alloc (.cells #[.bool false, .bool false, .int .u64 0, .slice none 0 0, .slice none 0 0] 45)).alloc (.cells #[.bool false, .bool false, .int .u64 0, .slice none 0 0, .slice none 0 0] 45))
  clear hw hn hd
  go_enter Try.func14, Try.ntmps14
  go_wp2_with fail
  refine Calls.gen (fun W => Blk W (w.heap.size) 32 #[.int .u64 win, .int .i64 most, .bool true, .int .u64 e, .slice A n c, .slice M m d] ∧ Blk W (w.heap.size + 1) 32 #[.int .u64 0, .int .i64 0, .bool false, .int .u64 0, .slice none 0 0, .slice none 0 0] ∧ Blk W (w.heap.size + 1 + 1) 45 #[.bool false, .bool false, .int .u64 0, .slice none 0 0, .slice none 0 0] ∧ Blk W (w.heap.size + 1 + 1 + 1) 45 #[.bool false, .bool false, .int .u64 0, .slice none 0 0, .slice none 0 0] ∧ Upd (fun _ => False) w W) ⟨C0.out, P0.out, Q0.out, S0.out, U0.out⟩ ?_
  rintro w2 ⟨qC, qP, qQ, qS, qU⟩
  have C2 := Lib.hid qC
  have P2 := Lib.hid qP
  have Q2 := Lib.hid qQ
  have S2 := Lib.hid qS
  have U2 := Lib.hid qU
  clear qC qP qQ qS qU
  clear C0 P0 Q0 S0 U0
  have l2 := S2.out.lt
  refine (radd01_to HN.out HW.out HD.out _).mono ?_
  rintro e1 w1 ⟨rfl, rfl⟩
  have C0_ : w2.cell? ⟨w.heap.size, 0, none⟩ = some (.int .u64 win) := C2.out.cell 0
  have C1_ : w2.cell? ⟨w.heap.size, 1, none⟩ = some (.int .i64 most) := C2.out.cell 1
  have C2_ : w2.cell? ⟨w.heap.size, 2, none⟩ = some (.bool true) := C2.out.cell 2
  have C3_ : w2.cell? ⟨w.heap.size, 3, none⟩ = some (.int .u64 e) := C2.out.cell 3
  have C4_ : w2.cell? ⟨w.heap.size, 4, none⟩ = some (.slice A n c) := C2.out.cell 4
  have C5_ : w2.cell? ⟨w.heap.size, 5, none⟩ = some (.slice M m d) := C2.out.cell 5
  have Cl_ : w.heap.size < w2.heap.size := C2.out.lt
  have Cf_ := C2.out.frz
  have P0_ : w2.cell? ⟨w.heap.size + 1, 0, none⟩ = some (.int .u64 0) := P2.out.cell 0
  have P1_ : w2.cell? ⟨w.heap.size + 1, 1, none⟩ = some (.int .i64 0) := P2.out.cell 1
  have P2_ : w2.cell? ⟨w.heap.size + 1, 2, none⟩ = some (.bool false) := P2.out.cell 2
  have P3_ : w2.cell? ⟨w.heap.size + 1, 3, none⟩ = some (.int .u64 0) := P2.out.cell 3
  have P4_ : w2.cell? ⟨w.heap.size + 1, 4, none⟩ = some (.slice none 0 0) := P2.out.cell 4
  have P5_ : w2.cell? ⟨w.heap.size + 1, 5, none⟩ = some (.slice none 0 0) := P2.out.cell 5
  have Pl_ : w.heap.size + 1 < w2.heap.size := P2.out.lt
  have Pf_ := P2.out.frz
  have Q0_ : w2.cell? ⟨w.heap.size + 1 + 1, 0, none⟩ = some (.bool false) := Q2.out.cell 0
  have Q1_ : w2.cell? ⟨w.heap.size + 1 + 1, 1, none⟩ = some (.bool false) := Q2.out.cell 1
  have Q2_ : w2.cell? ⟨w.heap.size + 1 + 1, 2, none⟩ = some (.int .u64 0) := Q2.out.cell 2
  have Q3_ : w2.cell? ⟨w.heap.size + 1 + 1, 3, none⟩ = some (.slice none 0 0) := Q2.out.cell 3
  have Q4_ : w2.cell? ⟨w.heap.size + 1 + 1, 4, none⟩ = some (.slice none 0 0) := Q2.out.cell 4
  have Ql_ : w.heap.size + 1 + 1 < w2.heap.size := Q2.out.lt
  have Qf_ := Q2.out.frz
  have S0_ : w2.cell? ⟨w.heap.size + 1 + 1 + 1, 0, none⟩ = some (.bool false) := S2.out.cell 0
  have S1_ : w2.cell? ⟨w.heap.size + 1 + 1 + 1, 1, none⟩ = some (.bool false) := S2.out.cell 1
  have S2_ : w2.cell? ⟨w.heap.size + 1 + 1 + 1, 2, none⟩ = some (.int .u64 0) := S2.out.cell 2
  have S3_ : w2.cell? ⟨w.heap.size + 1 + 1 + 1, 3, none⟩ = some (.slice none 0 0) := S2.out.cell 3
  have S4_ : w2.cell? ⟨w.heap.size + 1 + 1 + 1, 4, none⟩ = some (.slice none 0 0) := S2.out.cell 4
  have Sl_ : w.heap.size + 1 + 1 + 1 < w2.heap.size := S2.out.lt
  have Sf_ := S2.out.frz
  go_wp2_with fail
  clear C0_ C1_ C2_ C3_ C4_ C5_ Cl_ Cf_ P0_ P1_ P2_ P3_ P4_ P5_ Pl_ Pf_ Q0_ Q1_ Q2_ Q3_ Q4_ Ql_ Qf_ S0_ S1_ S2_ S3_ S4_ Sl_ Sf_
  refine Calls.gen (fun W => Blk W (w.heap.size) 32 #[.int .u64 win, .int .i64 most, .bool true, .int .u64 due, .slice A n c, .slice M m d] ∧ Blk W (w.heap.size + 1) 32 #[.int .u64 0, .int .i64 0, .bool false, .int .u64 0, .slice none 0 0, .slice none 0 0] ∧ Blk W (w.heap.size + 1 + 1) 45 #[.bool false, .bool false, .int .u64 0, .slice none 0 0, .slice none 0 0] ∧ Blk W (w.heap.size + 1 + 1 + 1) 45 #[.bool false, .bool false, .int .u64 0, .slice none 0 0, .slice none 0 0] ∧ Upd (fun _ => False) w W) ⟨(C2.out.set 3 (.int .u64 due)), (P2.out.far (p := ⟨w.heap.size, 3, none⟩) (show w.heap.size + 1 ≠ w.heap.size by omega) (.int .u64 due)), (Q2.out.far (p := ⟨w.heap.size, 3, none⟩) (show w.heap.size + 1 + 1 ≠ w.heap.size by omega) (.int .u64 due)), (S2.out.far (p := ⟨w.heap.size, 3, none⟩) (show w.heap.size + 1 + 1 + 1 ≠ w.heap.size by omega) (.int .u64 due)), (U2.out.set (p := ⟨w.heap.size, 3, none⟩) (.inr (show w.heap.size ≤ w.heap.size by omega)) (.int .u64 due))⟩ ?_
  rintro w22 ⟨qC, qP, qQ, qS, qU⟩
  have C22 := Lib.hid qC
  have P22 := Lib.hid qP
  have Q22 := Lib.hid qQ
  have S22 := Lib.hid qS
  have U22 := Lib.hid qU
  clear qC qP qQ qS qU
  clear C2 P2 Q2 S2 U2 l2
  have C2 := C22
  clear C22
  have P2 := P22
  clear P22
  have Q2 := Q22
  clear Q22
  have S2 := S22
  clear S22
  have U2 := U22
  clear U22
  have l2 := S2.out.lt
  refine (rone_new id arg _).mono ?_
  rintro e1 w3 ⟨A2, c2, M2, d2, rfl, ha, hm, hna, hnm, hd⟩
  have KA3 : Hid (Kp w3 (KF w 4) A2 1 c2 (nums [arg])) := Lib.hid (Kp.of_new ha (fun b o e hk => by have := hna b o e; have := hk.2; omega))
  have KM3 : Hid (Kp w3 (KF w 4) M2 1 d2 (prs [(id, 0)])) := Lib.hid (Kp.of_new hm (fun b o e hk => by have := hnm b o e; have := hk.2; omega))
  have NA : Hid (∀ b o, A2 = some ⟨b, o, none⟩ → w.heap.size ≤ b) := Lib.hid (fun b o e => by have := hna b o e; omega)
  have NM : Hid (∀ b o, M2 = some ⟨b, o, none⟩ → w.heap.size ≤ b) := Lib.hid (fun b o e => by have := hnm b o e; omega)
  clear ha hm hna hnm
  have hu3 := Upd.of_below hd (fun _ => False)
  have C3 := Lib.hid (C2.out.upd hu3 (fun h => h))
  have P3 := Lib.hid (P2.out.upd hu3 (fun h => h))
  have Q3 := Lib.hid (Q2.out.upd hu3 (fun h => h))
  have S3 := Lib.hid (S2.out.upd hu3 (fun h => h))
  have U3 := Lib.hid (U2.out.trans hu3 (fun _ h => h.elim))
  clear hd hu3 C2 P2 Q2 S2 U2 l2
  have C0_ : w3.cell? ⟨w.heap.size, 0, none⟩ = some (.int .u64 win) := C3.out.cell 0
  have C1_ : w3.cell? ⟨w.heap.size, 1, none⟩ = some (.int .i64 most) := C3.out.cell 1
  have C2_ : w3.cell? ⟨w.heap.size, 2, none⟩ = some (.bool true) := C3.out.cell 2
  have C3_ : w3.cell? ⟨w.heap.size, 3, none⟩ = some (.int .u64 due) := C3.out.cell 3
  have C4_ : w3.cell? ⟨w.heap.size, 4, none⟩ = some (.slice A n c) := C3.out.cell 4
  have C5_ : w3.cell? ⟨w.heap.size, 5, none⟩ = some (.slice M m d) := C3.out.cell 5
  have Cl_ : w.heap.size < w3.heap.size := C3.out.lt
  have Cf_ := C3.out.frz
  have P0_ : w3.cell? ⟨w.heap.size + 1, 0, none⟩ = some (.int .u64 0) := P3.out.cell 0
  have P1_ : w3.cell? ⟨w.heap.size + 1, 1, none⟩ = some (.int .i64 0) := P3.out.cell 1
  have P2_ : w3.cell? ⟨w.heap.size + 1, 2, none⟩ = some (.bool false) := P3.out.cell 2
  have P3_ : w3.cell? ⟨w.heap.size + 1, 3, none⟩ = some (.int .u64 0) := P3.out.cell 3
  have P4_ : w3.cell? ⟨w.heap.size + 1, 4, none⟩ = some (.slice none 0 0) := P3.out.cell 4
  have P5_ : w3.cell? ⟨w.heap.size + 1, 5, none⟩ = some (.slice none 0 0) := P3.out.cell 5
  have Pl_ : w.heap.size + 1 < w3.heap.size := P3.out.lt
  have Pf_ := P3.out.frz
  have Q0_ : w3.cell? ⟨w.heap.size + 1 + 1, 0, none⟩ = some (.bool false) := Q3.out.cell 0
  have Q1_ : w3.cell? ⟨w.heap.size + 1 + 1, 1, none⟩ = some (.bool false) := Q3.out.cell 1
  have Q2_ : w3.cell? ⟨w.heap.size + 1 + 1, 2, none⟩ = some (.int .u64 0) := Q3.out.cell 2
  have Q3_ : w3.cell? ⟨w.heap.size + 1 + 1, 3, none⟩ = some (.slice none 0 0) := Q3.out.cell 3
  have Q4_ : w3.cell? ⟨w.heap.size + 1 + 1, 4, none⟩ = some (.slice none 0 0) := Q3.out.cell 4
  have Ql_ : w.heap.size + 1 + 1 < w3.heap.size := Q3.out.lt
  have Qf_ := Q3.out.frz
  have S0_ : w3.cell? ⟨w.heap.size + 1 + 1 + 1, 0, none⟩ = some (.bool false) := S3.out.cell 0
  have S1_ : w3.cell? ⟨w.heap.size + 1 + 1 + 1, 1, none⟩ = some (.bool false) := S3.out.cell 1
  have S2_ : w3.cell? ⟨w.heap.size + 1 + 1 + 1, 2, none⟩ = some (.int .u64 0) := S3.out.cell 2
  have S3_ : w3.cell? ⟨w.heap.size + 1 + 1 + 1, 3, none⟩ = some (.slice none 0 0) := S3.out.cell 3
  have S4_ : w3.cell? ⟨w.heap.size + 1 + 1 + 1, 4, none⟩ = some (.slice none 0 0) := S3.out.cell 4
  have Sl_ : w.heap.size + 1 + 1 + 1 < w3.heap.size := S3.out.lt
  have Sf_ := S3.out.frz
  go_wp2_with fail
  clear C0_ C1_ C2_ C3_ C4_ C5_ Cl_ Cf_ P0_ P1_ P2_ P3_ P4_ P5_ Pl_ Pf_ Q0_ Q1_ Q2_ Q3_ Q4_ Ql_ Qf_ S0_ S1_ S2_ S3_ S4_ Sl_ Sf_
  refine Code.gen (fun W => Blk W (w.heap.size) 32 #[.int .u64 win, .int .i64 most, .bool true, .int .u64 due, .slice A2 1 c2, .slice M2 1 d2] ∧ Blk W (w.heap.size + 1) 32 #[.int .u64 0, .int .i64 0, .bool false, .int .u64 0, .slice none 0 0, .slice none 0 0] ∧ Blk W (w.heap.size + 1 + 1) 45 #[.bool false, .bool false, .int .u64 0, .slice none 0 0, .slice none 0 0] ∧ Blk W (w.heap.size + 1 + 1 + 1) 45 #[.bool true, .bool false, .int .u64 due, .slice none 0 0, .slice none 0 0] ∧ Upd (fun _ => False) w W ∧ Kp W (KF w 4) A2 1 c2 (nums [arg]) ∧ Kp W (KF w 4) M2 1 d2 (prs [(id, 0)])) ⟨(((((C3.out.set 4 (.slice A2 1 c2)).set 5 (.slice M2 1 d2)).far (p := ⟨w.heap.size + 1 + 1 + 1, 0, none⟩) (show w.heap.size ≠ w.heap.size + 1 + 1 + 1 by omega) (.bool true)).far (p := ⟨w.heap.size + 1 + 1 + 1, 2, none⟩) (show w.heap.size ≠ w.heap.size + 1 + 1 + 1 by omega) (.int .u64 due))), (((((P3.out.far (p := ⟨w.heap.size, 4, none⟩) (show w.heap.size + 1 ≠ w.heap.size by omega) (.slice A2 1 c2)).far (p := ⟨w.heap.size, 5, none⟩) (show w.heap.size + 1 ≠ w.heap.size by omega) (.slice M2 1 d2)).far (p := ⟨w.heap.size + 1 + 1 + 1, 0, none⟩) (show w.heap.size + 1 ≠ w.heap.size + 1 + 1 + 1 by omega) (.bool true)).far (p := ⟨w.heap.size + 1 + 1 + 1, 2, none⟩) (show w.heap.size + 1 ≠ w.heap.size + 1 + 1 + 1 by omega) (.int .u64 due))), (((((Q3.out.far (p := ⟨w.heap.size, 4, none⟩) (show w.heap.size + 1 + 1 ≠ w.heap.size by omega) (.slice A2 1 c2)).far (p := ⟨w.heap.size, 5, none⟩) (show w.heap.size + 1 + 1 ≠ w.heap.size by omega) (.slice M2 1 d2)).far (p := ⟨w.heap.size + 1 + 1 + 1, 0, none⟩) (show w.heap.size + 1 + 1 ≠ w.heap.size + 1 + 1 + 1 by omega) (.bool true)).far (p := ⟨w.heap.size + 1 + 1 + 1, 2, none⟩) (show w.heap.size + 1 + 1 ≠ w.heap.size + 1 + 1 + 1 by omega) (.int .u64 due))), (((((S3.out.far (p := ⟨w.heap.size, 4, none⟩) (show w.heap.size + 1 + 1 + 1 ≠ w.heap.size by omega) (.slice A2 1 c2)).far (p := ⟨w.heap.size, 5, none⟩) (show w.heap.size + 1 + 1 + 1 ≠ w.heap.size by omega) (.slice M2 1 d2)).set 0 (.bool true)).set 2 (.int .u64 due))), (((((U3.out.set (p := ⟨w.heap.size, 4, none⟩) (.inr (show w.heap.size ≤ w.heap.size by omega)) (.slice A2 1 c2)).set (p := ⟨w.heap.size, 5, none⟩) (.inr (show w.heap.size ≤ w.heap.size by omega)) (.slice M2 1 d2)).set (p := ⟨w.heap.size + 1 + 1 + 1, 0, none⟩) (.inr (show w.heap.size ≤ w.heap.size + 1 + 1 + 1 by omega)) (.bool true)).set (p := ⟨w.heap.size + 1 + 1 + 1, 2, none⟩) (.inr (show w.heap.size ≤ w.heap.size + 1 + 1 + 1 by omega)) (.int .u64 due))), KA3.out.keep ((((((Upd.refl (KF w 4) w3).set (p := ⟨w.heap.size, 4, none⟩) (.inl (show KF w 4 (w.heap.size) from ⟨by omega, by omega⟩)) (.slice A2 1 c2)).set (p := ⟨w.heap.size, 5, none⟩) (.inl (show KF w 4 (w.heap.size) from ⟨by omega, by omega⟩)) (.slice M2 1 d2)).set (p := ⟨w.heap.size + 1 + 1 + 1, 0, none⟩) (.inl (show KF w 4 (w.heap.size + 1 + 1 + 1) from ⟨by omega, by omega⟩)) (.bool true)).set (p := ⟨w.heap.size + 1 + 1 + 1, 2, none⟩) (.inl (show KF w 4 (w.heap.size + 1 + 1 + 1) from ⟨by omega, by omega⟩)) (.int .u64 due))) (fun _ h => h), KM3.out.keep ((((((Upd.refl (KF w 4) w3).set (p := ⟨w.heap.size, 4, none⟩) (.inl (show KF w 4 (w.heap.size) from ⟨by omega, by omega⟩)) (.slice A2 1 c2)).set (p := ⟨w.heap.size, 5, none⟩) (.inl (show KF w 4 (w.heap.size) from ⟨by omega, by omega⟩)) (.slice M2 1 d2)).set (p := ⟨w.heap.size + 1 + 1 + 1, 0, none⟩) (.inl (show KF w 4 (w.heap.size + 1 + 1 + 1) from ⟨by omega, by omega⟩)) (.bool true)).set (p := ⟨w.heap.size + 1 + 1 + 1, 2, none⟩) (.inl (show KF w 4 (w.heap.size + 1 + 1 + 1) from ⟨by omega, by omega⟩)) (.int .u64 due))) (fun _ h => h)⟩ ?_
  rintro w4 ⟨qC, qP, qQ, qS, qU, qKA, qKM⟩
  have C4 := Lib.hid qC
  have P4 := Lib.hid qP
  have Q4 := Lib.hid qQ
  have S4 := Lib.hid qS
  have U4 := Lib.hid qU
  have KA4 := Lib.hid qKA
  have KM4 := Lib.hid qKM
  clear qC qP qQ qS qU qKA qKM
  clear C3 P3 Q3 S3 U3 KA3 KM3
  have C0_ : w4.cell? ⟨w.heap.size, 0, none⟩ = some (.int .u64 win) := C4.out.cell 0
  have C1_ : w4.cell? ⟨w.heap.size, 1, none⟩ = some (.int .i64 most) := C4.out.cell 1
  have C2_ : w4.cell? ⟨w.heap.size, 2, none⟩ = some (.bool true) := C4.out.cell 2
  have C3_ : w4.cell? ⟨w.heap.size, 3, none⟩ = some (.int .u64 due) := C4.out.cell 3
  have C4_ : w4.cell? ⟨w.heap.size, 4, none⟩ = some (.slice A2 1 c2) := C4.out.cell 4
  have C5_ : w4.cell? ⟨w.heap.size, 5, none⟩ = some (.slice M2 1 d2) := C4.out.cell 5
  have Cl_ : w.heap.size < w4.heap.size := C4.out.lt
  have Cf_ := C4.out.frz
  have P0_ : w4.cell? ⟨w.heap.size + 1, 0, none⟩ = some (.int .u64 0) := P4.out.cell 0
  have P1_ : w4.cell? ⟨w.heap.size + 1, 1, none⟩ = some (.int .i64 0) := P4.out.cell 1
  have P2_ : w4.cell? ⟨w.heap.size + 1, 2, none⟩ = some (.bool false) := P4.out.cell 2
  have P3_ : w4.cell? ⟨w.heap.size + 1, 3, none⟩ = some (.int .u64 0) := P4.out.cell 3
  have P4_ : w4.cell? ⟨w.heap.size + 1, 4, none⟩ = some (.slice none 0 0) := P4.out.cell 4
  have P5_ : w4.cell? ⟨w.heap.size + 1, 5, none⟩ = some (.slice none 0 0) := P4.out.cell 5
  have Pl_ : w.heap.size + 1 < w4.heap.size := P4.out.lt
  have Pf_ := P4.out.frz
  have Q0_ : w4.cell? ⟨w.heap.size + 1 + 1, 0, none⟩ = some (.bool false) := Q4.out.cell 0
  have Q1_ : w4.cell? ⟨w.heap.size + 1 + 1, 1, none⟩ = some (.bool false) := Q4.out.cell 1
  have Q2_ : w4.cell? ⟨w.heap.size + 1 + 1, 2, none⟩ = some (.int .u64 0) := Q4.out.cell 2
  have Q3_ : w4.cell? ⟨w.heap.size + 1 + 1, 3, none⟩ = some (.slice none 0 0) := Q4.out.cell 3
  have Q4_ : w4.cell? ⟨w.heap.size + 1 + 1, 4, none⟩ = some (.slice none 0 0) := Q4.out.cell 4
  have Ql_ : w.heap.size + 1 + 1 < w4.heap.size := Q4.out.lt
  have Qf_ := Q4.out.frz
  have S0_ : w4.cell? ⟨w.heap.size + 1 + 1 + 1, 0, none⟩ = some (.bool true) := S4.out.cell 0
  have S1_ : w4.cell? ⟨w.heap.size + 1 + 1 + 1, 1, none⟩ = some (.bool false) := S4.out.cell 1
  have S2_ : w4.cell? ⟨w.heap.size + 1 + 1 + 1, 2, none⟩ = some (.int .u64 due) := S4.out.cell 2
  have S3_ : w4.cell? ⟨w.heap.size + 1 + 1 + 1, 3, none⟩ = some (.slice none 0 0) := S4.out.cell 3
  have S4_ : w4.cell? ⟨w.heap.size + 1 + 1 + 1, 4, none⟩ = some (.slice none 0 0) := S4.out.cell 4
  have Sl_ : w.heap.size + 1 + 1 + 1 < w4.heap.size := S4.out.lt
  have Sf_ := S4.out.frz
  have nCP := cell_far (show w.heap.size ≠ w.heap.size + 1 by omega)
  have nCQ := cell_far (show w.heap.size ≠ w.heap.size + 1 + 1 by omega)
  have nSP := cell_far (show w.heap.size + 1 + 1 + 1 ≠ w.heap.size + 1 by omega)
  have nSQ := cell_far (show w.heap.size + 1 + 1 + 1 ≠ w.heap.size + 1 + 1 by omega)
  go_region_held3 (fun w' => w'.cell? ⟨w.heap.size, 0, none⟩ = some (.int .u64 win) ∧ w'.cell? ⟨w.heap.size, 1, none⟩ = some (.int .i64 most) ∧ w'.cell? ⟨w.heap.size, 2, none⟩ = some (.bool true) ∧ w'.cell? ⟨w.heap.size, 3, none⟩ = some (.int .u64 due) ∧ w'.cell? ⟨w.heap.size, 4, none⟩ = some (.slice A2 1 c2) ∧ w'.cell? ⟨w.heap.size, 5, none⟩ = some (.slice M2 1 d2) ∧ w'.cell? ⟨w.heap.size + 1 + 1 + 1, 0, none⟩ = some (.bool true) ∧ w'.cell? ⟨w.heap.size + 1 + 1 + 1, 1, none⟩ = some (.bool false) ∧ w'.cell? ⟨w.heap.size + 1 + 1 + 1, 2, none⟩ = some (.int .u64 due) ∧ w'.cell? ⟨w.heap.size + 1 + 1 + 1, 3, none⟩ = some (.slice none 0 0) ∧ w'.cell? ⟨w.heap.size + 1 + 1 + 1, 4, none⟩ = some (.slice none 0 0)) (first | go_keep | (simp only [nCP, nCQ, nSP, nSQ, cell_drew]; exact ⟨C0_, C1_, C2_, C3_, C4_, C5_, S0_, S1_, S2_, S3_, S4_⟩)) (fail)
  clear nCP nCQ nSP nSQ
  clear C0_ C1_ C2_ C3_ C4_ C5_ Cl_ Cf_ P0_ P1_ P2_ P3_ P4_ P5_ Pl_ Pf_ Q0_ Q1_ Q2_ Q3_ Q4_ Ql_ Qf_ S0_ S1_ S2_ S3_ S4_ Sl_ Sf_
  have PF : Hid (Blk (((((((((((w4.setCell ⟨w.heap.size + 1, 0, none⟩ (.int .u64 win)).setCell ⟨w.heap.size + 1, 1, none⟩ (.int .i64 most)).setCell ⟨w.heap.size + 1, 2, none⟩ (.bool true)).setCell ⟨w.heap.size + 1, 3, none⟩ (.int .u64 due)).setCell ⟨w.heap.size + 1, 4, none⟩ (.slice A2 1 c2)).setCell ⟨w.heap.size + 1, 5, none⟩ (.slice M2 1 d2)).setCell ⟨w.heap.size + 1 + 1, 0, none⟩ (.bool true)).setCell ⟨w.heap.size + 1 + 1, 1, none⟩ (.bool false)).setCell ⟨w.heap.size + 1 + 1, 2, none⟩ (.int .u64 due)).setCell ⟨w.heap.size + 1 + 1, 3, none⟩ (.slice none 0 0)).setCell ⟨w.heap.size + 1 + 1, 4, none⟩ (.slice none 0 0)).drew (w.heap.size + 1) 32 #[.int .u64 win, .int .i64 most, .bool true, .int .u64 due, .slice A2 1 c2, .slice M2 1 d2]) := Lib.hid ((((((((((((P4.out.set 0 (.int .u64 win)).set 1 (.int .i64 most)).set 2 (.bool true)).set 3 (.int .u64 due)).set 4 (.slice A2 1 c2)).set 5 (.slice M2 1 d2)).far (p := ⟨w.heap.size + 1 + 1, 0, none⟩) (show w.heap.size + 1 ≠ w.heap.size + 1 + 1 by omega) (.bool true)).far (p := ⟨w.heap.size + 1 + 1, 1, none⟩) (show w.heap.size + 1 ≠ w.heap.size + 1 + 1 by omega) (.bool false)).far (p := ⟨w.heap.size + 1 + 1, 2, none⟩) (show w.heap.size + 1 ≠ w.heap.size + 1 + 1 by omega) (.int .u64 due)).far (p := ⟨w.heap.size + 1 + 1, 3, none⟩) (show w.heap.size + 1 ≠ w.heap.size + 1 + 1 by omega) (.slice none 0 0)).far (p := ⟨w.heap.size + 1 + 1, 4, none⟩) (show w.heap.size + 1 ≠ w.heap.size + 1 + 1 by omega) (.slice none 0 0)).drew)
  have QF : Hid (Blk (((((((((((w4.setCell ⟨w.heap.size + 1, 0, none⟩ (.int .u64 win)).setCell ⟨w.heap.size + 1, 1, none⟩ (.int .i64 most)).setCell ⟨w.heap.size + 1, 2, none⟩ (.bool true)).setCell ⟨w.heap.size + 1, 3, none⟩ (.int .u64 due)).setCell ⟨w.heap.size + 1, 4, none⟩ (.slice A2 1 c2)).setCell ⟨w.heap.size + 1, 5, none⟩ (.slice M2 1 d2)).setCell ⟨w.heap.size + 1 + 1, 0, none⟩ (.bool true)).setCell ⟨w.heap.size + 1 + 1, 1, none⟩ (.bool false)).setCell ⟨w.heap.size + 1 + 1, 2, none⟩ (.int .u64 due)).setCell ⟨w.heap.size + 1 + 1, 3, none⟩ (.slice none 0 0)).setCell ⟨w.heap.size + 1 + 1, 4, none⟩ (.slice none 0 0)).drew (w.heap.size + 1 + 1) 45 #[.bool true, .bool false, .int .u64 due, .slice none 0 0, .slice none 0 0]) := Lib.hid ((((((((((((Q4.out.far (p := ⟨w.heap.size + 1, 0, none⟩) (show w.heap.size + 1 + 1 ≠ w.heap.size + 1 by omega) (.int .u64 win)).far (p := ⟨w.heap.size + 1, 1, none⟩) (show w.heap.size + 1 + 1 ≠ w.heap.size + 1 by omega) (.int .i64 most)).far (p := ⟨w.heap.size + 1, 2, none⟩) (show w.heap.size + 1 + 1 ≠ w.heap.size + 1 by omega) (.bool true)).far (p := ⟨w.heap.size + 1, 3, none⟩) (show w.heap.size + 1 + 1 ≠ w.heap.size + 1 by omega) (.int .u64 due)).far (p := ⟨w.heap.size + 1, 4, none⟩) (show w.heap.size + 1 + 1 ≠ w.heap.size + 1 by omega) (.slice A2 1 c2)).far (p := ⟨w.heap.size + 1, 5, none⟩) (show w.heap.size + 1 + 1 ≠ w.heap.size + 1 by omega) (.slice M2 1 d2)).set 0 (.bool true)).set 1 (.bool false)).set 2 (.int .u64 due)).set 3 (.slice none 0 0)).set 4 (.slice none 0 0)).drew)
  have UF : Hid (Upd (fun _ => False) w (((((((((((w4.setCell ⟨w.heap.size + 1, 0, none⟩ (.int .u64 win)).setCell ⟨w.heap.size + 1, 1, none⟩ (.int .i64 most)).setCell ⟨w.heap.size + 1, 2, none⟩ (.bool true)).setCell ⟨w.heap.size + 1, 3, none⟩ (.int .u64 due)).setCell ⟨w.heap.size + 1, 4, none⟩ (.slice A2 1 c2)).setCell ⟨w.heap.size + 1, 5, none⟩ (.slice M2 1 d2)).setCell ⟨w.heap.size + 1 + 1, 0, none⟩ (.bool true)).setCell ⟨w.heap.size + 1 + 1, 1, none⟩ (.bool false)).setCell ⟨w.heap.size + 1 + 1, 2, none⟩ (.int .u64 due)).setCell ⟨w.heap.size + 1 + 1, 3, none⟩ (.slice none 0 0)).setCell ⟨w.heap.size + 1 + 1, 4, none⟩ (.slice none 0 0)).drew) := Lib.hid ((((((((((((U4.out.set (p := ⟨w.heap.size + 1, 0, none⟩) (.inr (show w.heap.size ≤ w.heap.size + 1 by omega)) (.int .u64 win)).set (p := ⟨w.heap.size + 1, 1, none⟩) (.inr (show w.heap.size ≤ w.heap.size + 1 by omega)) (.int .i64 most)).set (p := ⟨w.heap.size + 1, 2, none⟩) (.inr (show w.heap.size ≤ w.heap.size + 1 by omega)) (.bool true)).set (p := ⟨w.heap.size + 1, 3, none⟩) (.inr (show w.heap.size ≤ w.heap.size + 1 by omega)) (.int .u64 due)).set (p := ⟨w.heap.size + 1, 4, none⟩) (.inr (show w.heap.size ≤ w.heap.size + 1 by omega)) (.slice A2 1 c2)).set (p := ⟨w.heap.size + 1, 5, none⟩) (.inr (show w.heap.size ≤ w.heap.size + 1 by omega)) (.slice M2 1 d2)).set (p := ⟨w.heap.size + 1 + 1, 0, none⟩) (.inr (show w.heap.size ≤ w.heap.size + 1 + 1 by omega)) (.bool true)).set (p := ⟨w.heap.size + 1 + 1, 1, none⟩) (.inr (show w.heap.size ≤ w.heap.size + 1 + 1 by omega)) (.bool false)).set (p := ⟨w.heap.size + 1 + 1, 2, none⟩) (.inr (show w.heap.size ≤ w.heap.size + 1 + 1 by omega)) (.int .u64 due)).set (p := ⟨w.heap.size + 1 + 1, 3, none⟩) (.inr (show w.heap.size ≤ w.heap.size + 1 + 1 by omega)) (.slice none 0 0)).set (p := ⟨w.heap.size + 1 + 1, 4, none⟩) (.inr (show w.heap.size ≤ w.heap.size + 1 + 1 by omega)) (.slice none 0 0)).drew)
  have AF : Hid (Sl (((((((((((w4.setCell ⟨w.heap.size + 1, 0, none⟩ (.int .u64 win)).setCell ⟨w.heap.size + 1, 1, none⟩ (.int .i64 most)).setCell ⟨w.heap.size + 1, 2, none⟩ (.bool true)).setCell ⟨w.heap.size + 1, 3, none⟩ (.int .u64 due)).setCell ⟨w.heap.size + 1, 4, none⟩ (.slice A2 1 c2)).setCell ⟨w.heap.size + 1, 5, none⟩ (.slice M2 1 d2)).setCell ⟨w.heap.size + 1 + 1, 0, none⟩ (.bool true)).setCell ⟨w.heap.size + 1 + 1, 1, none⟩ (.bool false)).setCell ⟨w.heap.size + 1 + 1, 2, none⟩ (.int .u64 due)).setCell ⟨w.heap.size + 1 + 1, 3, none⟩ (.slice none 0 0)).setCell ⟨w.heap.size + 1 + 1, 4, none⟩ (.slice none 0 0)).drew A2 1 c2 (nums [arg])) := Lib.hid (KA4.out.keep (((((((((((((Upd.refl (KF w 4) w4).set (p := ⟨w.heap.size + 1, 0, none⟩) (.inl (show KF w 4 (w.heap.size + 1) from ⟨by omega, by omega⟩)) (.int .u64 win)).set (p := ⟨w.heap.size + 1, 1, none⟩) (.inl (show KF w 4 (w.heap.size + 1) from ⟨by omega, by omega⟩)) (.int .i64 most)).set (p := ⟨w.heap.size + 1, 2, none⟩) (.inl (show KF w 4 (w.heap.size + 1) from ⟨by omega, by omega⟩)) (.bool true)).set (p := ⟨w.heap.size + 1, 3, none⟩) (.inl (show KF w 4 (w.heap.size + 1) from ⟨by omega, by omega⟩)) (.int .u64 due)).set (p := ⟨w.heap.size + 1, 4, none⟩) (.inl (show KF w 4 (w.heap.size + 1) from ⟨by omega, by omega⟩)) (.slice A2 1 c2)).set (p := ⟨w.heap.size + 1, 5, none⟩) (.inl (show KF w 4 (w.heap.size + 1) from ⟨by omega, by omega⟩)) (.slice M2 1 d2)).set (p := ⟨w.heap.size + 1 + 1, 0, none⟩) (.inl (show KF w 4 (w.heap.size + 1 + 1) from ⟨by omega, by omega⟩)) (.bool true)).set (p := ⟨w.heap.size + 1 + 1, 1, none⟩) (.inl (show KF w 4 (w.heap.size + 1 + 1) from ⟨by omega, by omega⟩)) (.bool false)).set (p := ⟨w.heap.size + 1 + 1, 2, none⟩) (.inl (show KF w 4 (w.heap.size + 1 + 1) from ⟨by omega, by omega⟩)) (.int .u64 due)).set (p := ⟨w.heap.size + 1 + 1, 3, none⟩) (.inl (show KF w 4 (w.heap.size + 1 + 1) from ⟨by omega, by omega⟩)) (.slice none 0 0)).set (p := ⟨w.heap.size + 1 + 1, 4, none⟩) (.inl (show KF w 4 (w.heap.size + 1 + 1) from ⟨by omega, by omega⟩)) (.slice none 0 0)).drew) (fun _ h => h)).sl
  have MF : Hid (Sl (((((((((((w4.setCell ⟨w.heap.size + 1, 0, none⟩ (.int .u64 win)).setCell ⟨w.heap.size + 1, 1, none⟩ (.int .i64 most)).setCell ⟨w.heap.size + 1, 2, none⟩ (.bool true)).setCell ⟨w.heap.size + 1, 3, none⟩ (.int .u64 due)).setCell ⟨w.heap.size + 1, 4, none⟩ (.slice A2 1 c2)).setCell ⟨w.heap.size + 1, 5, none⟩ (.slice M2 1 d2)).setCell ⟨w.heap.size + 1 + 1, 0, none⟩ (.bool true)).setCell ⟨w.heap.size + 1 + 1, 1, none⟩ (.bool false)).setCell ⟨w.heap.size + 1 + 1, 2, none⟩ (.int .u64 due)).setCell ⟨w.heap.size + 1 + 1, 3, none⟩ (.slice none 0 0)).setCell ⟨w.heap.size + 1 + 1, 4, none⟩ (.slice none 0 0)).drew M2 1 d2 (prs [(id, 0)])) := Lib.hid (KM4.out.keep (((((((((((((Upd.refl (KF w 4) w4).set (p := ⟨w.heap.size + 1, 0, none⟩) (.inl (show KF w 4 (w.heap.size + 1) from ⟨by omega, by omega⟩)) (.int .u64 win)).set (p := ⟨w.heap.size + 1, 1, none⟩) (.inl (show KF w 4 (w.heap.size + 1) from ⟨by omega, by omega⟩)) (.int .i64 most)).set (p := ⟨w.heap.size + 1, 2, none⟩) (.inl (show KF w 4 (w.heap.size + 1) from ⟨by omega, by omega⟩)) (.bool true)).set (p := ⟨w.heap.size + 1, 3, none⟩) (.inl (show KF w 4 (w.heap.size + 1) from ⟨by omega, by omega⟩)) (.int .u64 due)).set (p := ⟨w.heap.size + 1, 4, none⟩) (.inl (show KF w 4 (w.heap.size + 1) from ⟨by omega, by omega⟩)) (.slice A2 1 c2)).set (p := ⟨w.heap.size + 1, 5, none⟩) (.inl (show KF w 4 (w.heap.size + 1) from ⟨by omega, by omega⟩)) (.slice M2 1 d2)).set (p := ⟨w.heap.size + 1 + 1, 0, none⟩) (.inl (show KF w 4 (w.heap.size + 1 + 1) from ⟨by omega, by omega⟩)) (.bool true)).set (p := ⟨w.heap.size + 1 + 1, 1, none⟩) (.inl (show KF w 4 (w.heap.size + 1 + 1) from ⟨by omega, by omega⟩)) (.bool false)).set (p := ⟨w.heap.size + 1 + 1, 2, none⟩) (.inl (show KF w 4 (w.heap.size + 1 + 1) from ⟨by omega, by omega⟩)) (.int .u64 due)).set (p := ⟨w.heap.size + 1 + 1, 3, none⟩) (.inl (show KF w 4 (w.heap.size + 1 + 1) from ⟨by omega, by omega⟩)) (.slice none 0 0)).set (p := ⟨w.heap.size + 1 + 1, 4, none⟩) (.inl (show KF w 4 (w.heap.size + 1 + 1) from ⟨by omega, by omega⟩)) (.slice none 0 0)).drew) (fun _ h => h)).sl
  generalize (((((((((((w4.setCell ⟨w.heap.size + 1, 0, none⟩ (.int .u64 win)).setCell ⟨w.heap.size + 1, 1, none⟩ (.int .i64 most)).setCell ⟨w.heap.size + 1, 2, none⟩ (.bool true)).setCell ⟨w.heap.size + 1, 3, none⟩ (.int .u64 due)).setCell ⟨w.heap.size + 1, 4, none⟩ (.slice A2 1 c2)).setCell ⟨w.heap.size + 1, 5, none⟩ (.slice M2 1 d2)).setCell ⟨w.heap.size + 1 + 1, 0, none⟩ (.bool true)).setCell ⟨w.heap.size + 1 + 1, 1, none⟩ (.bool false)).setCell ⟨w.heap.size + 1 + 1, 2, none⟩ (.int .u64 due)).setCell ⟨w.heap.size + 1 + 1, 3, none⟩ (.slice none 0 0)).setCell ⟨w.heap.size + 1 + 1, 4, none⟩ (.slice none 0 0)).drew = w5 at *
  have p0 : w5.cell? ⟨w.heap.size + 1, 0, none⟩ = some (.int .u64 win) := PF.out.cell 0
  have p1 : w5.cell? ⟨w.heap.size + 1, 1, none⟩ = some (.int .i64 most) := PF.out.cell 1
  have p2 : w5.cell? ⟨w.heap.size + 1, 2, none⟩ = some (.bool true) := PF.out.cell 2
  have p3 : w5.cell? ⟨w.heap.size + 1, 3, none⟩ = some (.int .u64 due) := PF.out.cell 3
  have p4 : w5.cell? ⟨w.heap.size + 1, 4, none⟩ = some (.slice A2 1 c2) := PF.out.cell 4
  have p5 : w5.cell? ⟨w.heap.size + 1, 5, none⟩ = some (.slice M2 1 d2) := PF.out.cell 5
  have q0 : w5.cell? ⟨w.heap.size + 1 + 1, 0, none⟩ = some (.bool true) := QF.out.cell 0
  have q1 : w5.cell? ⟨w.heap.size + 1 + 1, 1, none⟩ = some (.bool false) := QF.out.cell 1
  have q2 : w5.cell? ⟨w.heap.size + 1 + 1, 2, none⟩ = some (.int .u64 due) := QF.out.cell 2
  have q3 : w5.cell? ⟨w.heap.size + 1 + 1, 3, none⟩ = some (.slice none 0 0) := QF.out.cell 3
  have q4 : w5.cell? ⟨w.heap.size + 1 + 1, 4, none⟩ = some (.slice none 0 0) := QF.out.cell 4
  have lP := PF.out.lt
  have lQ := QF.out.lt
  go_wp2
  refine bodyPost_ret (v := .tuple #[.agg #[.int .u64 win, .int .i64 most, .bool true, .int .u64 due, .slice A2 1 c2, .slice M2 1 d2], .agg #[.bool true, .bool false, .int .u64 due, .slice none 0 0, .slice none 0 0]]) (by simp [results, Try.results14, go_sem, p0, p1, p2, p3, p4, p5, q0, q1, q2, q3, q4, lP, lQ]) rfl ⟨A2, c2, M2, d2, rfl, AF.out, MF.out, NA.out, NM.out, UF.out.below0⟩
set_option maxRecDepth 100000 in
set_option maxHeartbeats 4000000 in
theorem radd_old_ready {win most now id arg e : Int} {A M : Option Addr} {n c m d n' m' : Nat} {xs xs' : List Int} {ms ms' : List (Int × Int)} {ok : Bool} (hr : most ≤ (n' : Int)) (hb : badd xs ms id arg most = (xs', ms', ok)) (hxn : xs.length = n) (hmn : ms.length = m) (hxn' : xs'.length = n') (hmn' : ms'.length = m') (hn1 : n ≤ 900) (hm1 : m ≤ 900) (w : World) (ha : Sl w A n c (nums xs)) (hmm : Sl w M m d (prs ms)) :
    Calls Try.prog 14 #[.agg #[.int .u64 win, .int .i64 most, .bool true, .int .u64 e, .slice A n c, .slice M m d], .int .u64 now, .int .i64 id, .int .i64 arg] w fun e_ w' => ∃ A2 c2 M2 d2, e_ = .returned (.tuple #[.agg #[.int .u64 win, .int .i64 most, .bool false, .int .u64 e, .slice none 0 0, .slice none 0 0], .agg #[.bool false, .bool true, .int .u64 0, .slice A2 n' c2, .slice M2 m' d2]]) ∧ Sl w' A2 n' c2 (nums xs') ∧ Sl w' M2 m' d2 (prs ms') ∧ RNew w A2 M2 A M xs' xs ms' ms ∧ Below w.heap.size w w' := by
  have hn2 : n' ≤ 901 := by
    have := badd_len1 xs ms id arg most
    rw [hb, hxn', hxn] at this
    omega
  have HBB := Lib.hid hb
  have HXN := Lib.hid hxn
  have HMN := Lib.hid hmn
  have HXN' := Lib.hid hxn'
  have HMN' := Lib.hid hmn'
  have HAw := Lib.hid ha
  have HMw := Lib.hid hmm
  have C0 := Lib.hid ((((Blk.new w #[.int .u64 win, .int .i64 most, .bool true, .int .u64 e, .slice A n c, .slice M m d] 32).alloc (.cells #[.int .u64 0, .int .i64 0, .bool false, .int .u64 0, .slice none 0 0, .slice none 0 0] 32)).alloc (.cells #[.bool false, .bool false, .int .u64 0, .slice none 0 0, .slice none 0 0] 45)).alloc (.cells #[.bool false, .bool false, .int .u64 0, .slice none 0 0, .slice none 0 0] 45))
  have P0 := Lib.hid (((Blk.new1 w (.cells #[.int .u64 win, .int .i64 most, .bool true, .int .u64 e, .slice A n c, .slice M m d] 32) #[.int .u64 0, .int .i64 0, .bool false, .int .u64 0, .slice none 0 0, .slice none 0 0] 32).alloc (.cells #[.bool false, .bool false, .int .u64 0, .slice none 0 0, .slice none 0 0] 45)).alloc (.cells #[.bool false, .bool false, .int .u64 0, .slice none 0 0, .slice none 0 0] 45))
  have Q0 := Lib.hid ((Blk.new2 w (.cells #[.int .u64 win, .int .i64 most, .bool true, .int .u64 e, .slice A n c, .slice M m d] 32) (.cells #[.int .u64 0, .int .i64 0, .bool false, .int .u64 0, .slice none 0 0, .slice none 0 0] 32) #[.bool false, .bool false, .int .u64 0, .slice none 0 0, .slice none 0 0] 45).alloc (.cells #[.bool false, .bool false, .int .u64 0, .slice none 0 0, .slice none 0 0] 45))
  have S0 := Lib.hid (Blk.new3 w (.cells #[.int .u64 win, .int .i64 most, .bool true, .int .u64 e, .slice A n c, .slice M m d] 32) (.cells #[.int .u64 0, .int .i64 0, .bool false, .int .u64 0, .slice none 0 0, .slice none 0 0] 32) (.cells #[.bool false, .bool false, .int .u64 0, .slice none 0 0, .slice none 0 0] 45) #[.bool false, .bool false, .int .u64 0, .slice none 0 0, .slice none 0 0] 45)
  have U0 : Hid (Upd (fun _ => False) w _) := Lib.hid (((((Upd.refl (fun _ => False) w).alloc (.cells #[.int .u64 win, .int .i64 most, .bool true, .int .u64 e, .slice A n c, .slice M m d] 32)).alloc (.cells #[.int .u64 0, .int .i64 0, .bool false, .int .u64 0, .slice none 0 0, .slice none 0 0] 32)).alloc (.cells #[.bool false, .bool false, .int .u64 0, .slice none 0 0, .slice none 0 0] 45)).alloc (.cells #[.bool false, .bool false, .int .u64 0, .slice none 0 0, .slice none 0 0] 45))
  clear hb hxn hmn hxn' hmn' ha hmm
  go_enter Try.func14, Try.ntmps14
  go_wp2_with fail
  refine Calls.gen (fun W => Blk W (w.heap.size) 32 #[.int .u64 win, .int .i64 most, .bool true, .int .u64 e, .slice A n c, .slice M m d] ∧ Blk W (w.heap.size + 1) 32 #[.int .u64 0, .int .i64 0, .bool false, .int .u64 0, .slice none 0 0, .slice none 0 0] ∧ Blk W (w.heap.size + 1 + 1) 45 #[.bool false, .bool false, .int .u64 0, .slice none 0 0, .slice none 0 0] ∧ Blk W (w.heap.size + 1 + 1 + 1) 45 #[.bool false, .bool false, .int .u64 0, .slice none 0 0, .slice none 0 0] ∧ Upd (fun _ => False) w W) ⟨C0.out, P0.out, Q0.out, S0.out, U0.out⟩ ?_
  rintro w2 ⟨qC, qP, qQ, qS, qU⟩
  have C2 := Lib.hid qC
  have P2 := Lib.hid qP
  have Q2 := Lib.hid qQ
  have S2 := Lib.hid qS
  have U2 := Lib.hid qU
  clear qC qP qQ qS qU
  clear C0 P0 Q0 S0 U0
  have l2 := S2.out.lt
  refine (radd_n HBB.out HXN.out HMN.out HXN'.out HMN'.out (by omega) (by omega) _ (HAw.out.upd0 U2.out) (HMw.out.upd0 U2.out)).mono ?_
  rintro e1 w3 ⟨A2, c2, M2, d2, rfl, ha, hm, hnw, hd⟩
  have hu23 := U2.out.trans (Upd.of_below hd (fun _ => False)) (fun _ h => h.elim)
  have KK : Hid (Kp w3 (KF w 4) A2 n' c2 (nums xs') ∧ Kp w3 (KF w 4) M2 m' d2 (prs ms') ∧ RNew w A2 M2 A M xs' xs ms' ms) := Lib.hid (by
    rcases hnw with ⟨rfl, rfl, rfl, rfl⟩ | ⟨h1, h2⟩
    · exact ⟨⟨ha, (Kp.old HAw.out hu23 (F := KF w 4) (fun k hk => hk.1)).off⟩, ⟨hm, (Kp.old HMw.out hu23 (F := KF w 4) (fun k hk => hk.1)).off⟩, .inl ⟨rfl, rfl, rfl, rfl⟩⟩
    · exact ⟨Kp.of_new ha (fun b o e hk => by have := h1 b o e; have := hk.2; omega), Kp.of_new hm (fun b o e hk => by have := h2 b o e; have := hk.2; omega), .inr ⟨fun b o e => by have := h1 b o e; omega, fun b o e => by have := h2 b o e; omega⟩⟩)
  have KA3 := Lib.hid KK.out.1
  have KM3 := Lib.hid KK.out.2.1
  have NW := Lib.hid KK.out.2.2
  clear KK ha hm hnw hu23
  have hu3 := Upd.of_below hd (fun _ => False)
  have C3 := Lib.hid (C2.out.upd hu3 (fun h => h))
  have P3 := Lib.hid (P2.out.upd hu3 (fun h => h))
  have Q3 := Lib.hid (Q2.out.upd hu3 (fun h => h))
  have S3 := Lib.hid (S2.out.upd hu3 (fun h => h))
  have U3 := Lib.hid (U2.out.trans hu3 (fun _ h => h.elim))
  clear hd hu3 C2 P2 Q2 S2 U2 l2
  have C0_ : w3.cell? ⟨w.heap.size, 0, none⟩ = some (.int .u64 win) := C3.out.cell 0
  have C1_ : w3.cell? ⟨w.heap.size, 1, none⟩ = some (.int .i64 most) := C3.out.cell 1
  have C2_ : w3.cell? ⟨w.heap.size, 2, none⟩ = some (.bool true) := C3.out.cell 2
  have C3_ : w3.cell? ⟨w.heap.size, 3, none⟩ = some (.int .u64 e) := C3.out.cell 3
  have C4_ : w3.cell? ⟨w.heap.size, 4, none⟩ = some (.slice A n c) := C3.out.cell 4
  have C5_ : w3.cell? ⟨w.heap.size, 5, none⟩ = some (.slice M m d) := C3.out.cell 5
  have Cl_ : w.heap.size < w3.heap.size := C3.out.lt
  have Cf_ := C3.out.frz
  have P0_ : w3.cell? ⟨w.heap.size + 1, 0, none⟩ = some (.int .u64 0) := P3.out.cell 0
  have P1_ : w3.cell? ⟨w.heap.size + 1, 1, none⟩ = some (.int .i64 0) := P3.out.cell 1
  have P2_ : w3.cell? ⟨w.heap.size + 1, 2, none⟩ = some (.bool false) := P3.out.cell 2
  have P3_ : w3.cell? ⟨w.heap.size + 1, 3, none⟩ = some (.int .u64 0) := P3.out.cell 3
  have P4_ : w3.cell? ⟨w.heap.size + 1, 4, none⟩ = some (.slice none 0 0) := P3.out.cell 4
  have P5_ : w3.cell? ⟨w.heap.size + 1, 5, none⟩ = some (.slice none 0 0) := P3.out.cell 5
  have Pl_ : w.heap.size + 1 < w3.heap.size := P3.out.lt
  have Pf_ := P3.out.frz
  have Q0_ : w3.cell? ⟨w.heap.size + 1 + 1, 0, none⟩ = some (.bool false) := Q3.out.cell 0
  have Q1_ : w3.cell? ⟨w.heap.size + 1 + 1, 1, none⟩ = some (.bool false) := Q3.out.cell 1
  have Q2_ : w3.cell? ⟨w.heap.size + 1 + 1, 2, none⟩ = some (.int .u64 0) := Q3.out.cell 2
  have Q3_ : w3.cell? ⟨w.heap.size + 1 + 1, 3, none⟩ = some (.slice none 0 0) := Q3.out.cell 3
  have Q4_ : w3.cell? ⟨w.heap.size + 1 + 1, 4, none⟩ = some (.slice none 0 0) := Q3.out.cell 4
  have Ql_ : w.heap.size + 1 + 1 < w3.heap.size := Q3.out.lt
  have Qf_ := Q3.out.frz
  have S0_ : w3.cell? ⟨w.heap.size + 1 + 1 + 1, 0, none⟩ = some (.bool false) := S3.out.cell 0
  have S1_ : w3.cell? ⟨w.heap.size + 1 + 1 + 1, 1, none⟩ = some (.bool false) := S3.out.cell 1
  have S2_ : w3.cell? ⟨w.heap.size + 1 + 1 + 1, 2, none⟩ = some (.int .u64 0) := S3.out.cell 2
  have S3_ : w3.cell? ⟨w.heap.size + 1 + 1 + 1, 3, none⟩ = some (.slice none 0 0) := S3.out.cell 3
  have S4_ : w3.cell? ⟨w.heap.size + 1 + 1 + 1, 4, none⟩ = some (.slice none 0 0) := S3.out.cell 4
  have Sl_ : w.heap.size + 1 + 1 + 1 < w3.heap.size := S3.out.lt
  have Sf_ := S3.out.frz
  go_wp2_with fail
  clear C0_ C1_ C2_ C3_ C4_ C5_ Cl_ Cf_ P0_ P1_ P2_ P3_ P4_ P5_ Pl_ Pf_ Q0_ Q1_ Q2_ Q3_ Q4_ Ql_ Qf_ S0_ S1_ S2_ S3_ S4_ Sl_ Sf_
  refine Code.gen (fun W => Blk W (w.heap.size) 32 #[.int .u64 win, .int .i64 most, .bool false, .int .u64 e, .slice none 0 0, .slice none 0 0] ∧ Blk W (w.heap.size + 1) 32 #[.int .u64 0, .int .i64 0, .bool false, .int .u64 0, .slice none 0 0, .slice none 0 0] ∧ Blk W (w.heap.size + 1 + 1) 45 #[.bool false, .bool false, .int .u64 0, .slice none 0 0, .slice none 0 0] ∧ Blk W (w.heap.size + 1 + 1 + 1) 45 #[.bool false, .bool true, .int .u64 0, .slice A2 n' c2, .slice M2 m' d2] ∧ Upd (fun _ => False) w W ∧ Kp W (KF w 4) A2 n' c2 (nums xs') ∧ Kp W (KF w 4) M2 m' d2 (prs ms')) ⟨(((((((((C3.out.set 4 (.slice A2 n' c2)).set 5 (.slice M2 m' d2)).far (p := ⟨w.heap.size + 1 + 1 + 1, 1, none⟩) (show w.heap.size ≠ w.heap.size + 1 + 1 + 1 by omega) (.bool true)).far (p := ⟨w.heap.size + 1 + 1 + 1, 3, none⟩) (show w.heap.size ≠ w.heap.size + 1 + 1 + 1 by omega) (.slice A2 n' c2)).far (p := ⟨w.heap.size + 1 + 1 + 1, 4, none⟩) (show w.heap.size ≠ w.heap.size + 1 + 1 + 1 by omega) (.slice M2 m' d2)).set 2 (.bool false)).set 4 (.slice none 0 0)).set 5 (.slice none 0 0)).alloc (.cells #[.slice A2 n' c2, .slice M2 m' d2] 30)), (((((((((P3.out.far (p := ⟨w.heap.size, 4, none⟩) (show w.heap.size + 1 ≠ w.heap.size by omega) (.slice A2 n' c2)).far (p := ⟨w.heap.size, 5, none⟩) (show w.heap.size + 1 ≠ w.heap.size by omega) (.slice M2 m' d2)).far (p := ⟨w.heap.size + 1 + 1 + 1, 1, none⟩) (show w.heap.size + 1 ≠ w.heap.size + 1 + 1 + 1 by omega) (.bool true)).far (p := ⟨w.heap.size + 1 + 1 + 1, 3, none⟩) (show w.heap.size + 1 ≠ w.heap.size + 1 + 1 + 1 by omega) (.slice A2 n' c2)).far (p := ⟨w.heap.size + 1 + 1 + 1, 4, none⟩) (show w.heap.size + 1 ≠ w.heap.size + 1 + 1 + 1 by omega) (.slice M2 m' d2)).far (p := ⟨w.heap.size, 2, none⟩) (show w.heap.size + 1 ≠ w.heap.size by omega) (.bool false)).far (p := ⟨w.heap.size, 4, none⟩) (show w.heap.size + 1 ≠ w.heap.size by omega) (.slice none 0 0)).far (p := ⟨w.heap.size, 5, none⟩) (show w.heap.size + 1 ≠ w.heap.size by omega) (.slice none 0 0)).alloc (.cells #[.slice A2 n' c2, .slice M2 m' d2] 30)), (((((((((Q3.out.far (p := ⟨w.heap.size, 4, none⟩) (show w.heap.size + 1 + 1 ≠ w.heap.size by omega) (.slice A2 n' c2)).far (p := ⟨w.heap.size, 5, none⟩) (show w.heap.size + 1 + 1 ≠ w.heap.size by omega) (.slice M2 m' d2)).far (p := ⟨w.heap.size + 1 + 1 + 1, 1, none⟩) (show w.heap.size + 1 + 1 ≠ w.heap.size + 1 + 1 + 1 by omega) (.bool true)).far (p := ⟨w.heap.size + 1 + 1 + 1, 3, none⟩) (show w.heap.size + 1 + 1 ≠ w.heap.size + 1 + 1 + 1 by omega) (.slice A2 n' c2)).far (p := ⟨w.heap.size + 1 + 1 + 1, 4, none⟩) (show w.heap.size + 1 + 1 ≠ w.heap.size + 1 + 1 + 1 by omega) (.slice M2 m' d2)).far (p := ⟨w.heap.size, 2, none⟩) (show w.heap.size + 1 + 1 ≠ w.heap.size by omega) (.bool false)).far (p := ⟨w.heap.size, 4, none⟩) (show w.heap.size + 1 + 1 ≠ w.heap.size by omega) (.slice none 0 0)).far (p := ⟨w.heap.size, 5, none⟩) (show w.heap.size + 1 + 1 ≠ w.heap.size by omega) (.slice none 0 0)).alloc (.cells #[.slice A2 n' c2, .slice M2 m' d2] 30)), (((((((((S3.out.far (p := ⟨w.heap.size, 4, none⟩) (show w.heap.size + 1 + 1 + 1 ≠ w.heap.size by omega) (.slice A2 n' c2)).far (p := ⟨w.heap.size, 5, none⟩) (show w.heap.size + 1 + 1 + 1 ≠ w.heap.size by omega) (.slice M2 m' d2)).set 1 (.bool true)).set 3 (.slice A2 n' c2)).set 4 (.slice M2 m' d2)).far (p := ⟨w.heap.size, 2, none⟩) (show w.heap.size + 1 + 1 + 1 ≠ w.heap.size by omega) (.bool false)).far (p := ⟨w.heap.size, 4, none⟩) (show w.heap.size + 1 + 1 + 1 ≠ w.heap.size by omega) (.slice none 0 0)).far (p := ⟨w.heap.size, 5, none⟩) (show w.heap.size + 1 + 1 + 1 ≠ w.heap.size by omega) (.slice none 0 0)).alloc (.cells #[.slice A2 n' c2, .slice M2 m' d2] 30)), (((((((((U3.out.set (p := ⟨w.heap.size, 4, none⟩) (.inr (show w.heap.size ≤ w.heap.size by omega)) (.slice A2 n' c2)).set (p := ⟨w.heap.size, 5, none⟩) (.inr (show w.heap.size ≤ w.heap.size by omega)) (.slice M2 m' d2)).set (p := ⟨w.heap.size + 1 + 1 + 1, 1, none⟩) (.inr (show w.heap.size ≤ w.heap.size + 1 + 1 + 1 by omega)) (.bool true)).set (p := ⟨w.heap.size + 1 + 1 + 1, 3, none⟩) (.inr (show w.heap.size ≤ w.heap.size + 1 + 1 + 1 by omega)) (.slice A2 n' c2)).set (p := ⟨w.heap.size + 1 + 1 + 1, 4, none⟩) (.inr (show w.heap.size ≤ w.heap.size + 1 + 1 + 1 by omega)) (.slice M2 m' d2)).set (p := ⟨w.heap.size, 2, none⟩) (.inr (show w.heap.size ≤ w.heap.size by omega)) (.bool false)).set (p := ⟨w.heap.size, 4, none⟩) (.inr (show w.heap.size ≤ w.heap.size by omega)) (.slice none 0 0)).set (p := ⟨w.heap.size, 5, none⟩) (.inr (show w.heap.size ≤ w.heap.size by omega)) (.slice none 0 0)).alloc (.cells #[.slice A2 n' c2, .slice M2 m' d2] 30)), KA3.out.keep ((((((((((Upd.refl (KF w 4) w3).set (p := ⟨w.heap.size, 4, none⟩) (.inl (show KF w 4 (w.heap.size) from ⟨by omega, by omega⟩)) (.slice A2 n' c2)).set (p := ⟨w.heap.size, 5, none⟩) (.inl (show KF w 4 (w.heap.size) from ⟨by omega, by omega⟩)) (.slice M2 m' d2)).set (p := ⟨w.heap.size + 1 + 1 + 1, 1, none⟩) (.inl (show KF w 4 (w.heap.size + 1 + 1 + 1) from ⟨by omega, by omega⟩)) (.bool true)).set (p := ⟨w.heap.size + 1 + 1 + 1, 3, none⟩) (.inl (show KF w 4 (w.heap.size + 1 + 1 + 1) from ⟨by omega, by omega⟩)) (.slice A2 n' c2)).set (p := ⟨w.heap.size + 1 + 1 + 1, 4, none⟩) (.inl (show KF w 4 (w.heap.size + 1 + 1 + 1) from ⟨by omega, by omega⟩)) (.slice M2 m' d2)).set (p := ⟨w.heap.size, 2, none⟩) (.inl (show KF w 4 (w.heap.size) from ⟨by omega, by omega⟩)) (.bool false)).set (p := ⟨w.heap.size, 4, none⟩) (.inl (show KF w 4 (w.heap.size) from ⟨by omega, by omega⟩)) (.slice none 0 0)).set (p := ⟨w.heap.size, 5, none⟩) (.inl (show KF w 4 (w.heap.size) from ⟨by omega, by omega⟩)) (.slice none 0 0)).alloc (.cells #[.slice A2 n' c2, .slice M2 m' d2] 30)) (fun _ h => h), KM3.out.keep ((((((((((Upd.refl (KF w 4) w3).set (p := ⟨w.heap.size, 4, none⟩) (.inl (show KF w 4 (w.heap.size) from ⟨by omega, by omega⟩)) (.slice A2 n' c2)).set (p := ⟨w.heap.size, 5, none⟩) (.inl (show KF w 4 (w.heap.size) from ⟨by omega, by omega⟩)) (.slice M2 m' d2)).set (p := ⟨w.heap.size + 1 + 1 + 1, 1, none⟩) (.inl (show KF w 4 (w.heap.size + 1 + 1 + 1) from ⟨by omega, by omega⟩)) (.bool true)).set (p := ⟨w.heap.size + 1 + 1 + 1, 3, none⟩) (.inl (show KF w 4 (w.heap.size + 1 + 1 + 1) from ⟨by omega, by omega⟩)) (.slice A2 n' c2)).set (p := ⟨w.heap.size + 1 + 1 + 1, 4, none⟩) (.inl (show KF w 4 (w.heap.size + 1 + 1 + 1) from ⟨by omega, by omega⟩)) (.slice M2 m' d2)).set (p := ⟨w.heap.size, 2, none⟩) (.inl (show KF w 4 (w.heap.size) from ⟨by omega, by omega⟩)) (.bool false)).set (p := ⟨w.heap.size, 4, none⟩) (.inl (show KF w 4 (w.heap.size) from ⟨by omega, by omega⟩)) (.slice none 0 0)).set (p := ⟨w.heap.size, 5, none⟩) (.inl (show KF w 4 (w.heap.size) from ⟨by omega, by omega⟩)) (.slice none 0 0)).alloc (.cells #[.slice A2 n' c2, .slice M2 m' d2] 30)) (fun _ h => h)⟩ ?_
  rintro w4 ⟨qC, qP, qQ, qS, qU, qKA, qKM⟩
  have C4 := Lib.hid qC
  have P4 := Lib.hid qP
  have Q4 := Lib.hid qQ
  have S4 := Lib.hid qS
  have U4 := Lib.hid qU
  have KA4 := Lib.hid qKA
  have KM4 := Lib.hid qKM
  clear qC qP qQ qS qU qKA qKM
  clear C3 P3 Q3 S3 U3 KA3 KM3
  have C0_ : w4.cell? ⟨w.heap.size, 0, none⟩ = some (.int .u64 win) := C4.out.cell 0
  have C1_ : w4.cell? ⟨w.heap.size, 1, none⟩ = some (.int .i64 most) := C4.out.cell 1
  have C2_ : w4.cell? ⟨w.heap.size, 2, none⟩ = some (.bool false) := C4.out.cell 2
  have C3_ : w4.cell? ⟨w.heap.size, 3, none⟩ = some (.int .u64 e) := C4.out.cell 3
  have C4_ : w4.cell? ⟨w.heap.size, 4, none⟩ = some (.slice none 0 0) := C4.out.cell 4
  have C5_ : w4.cell? ⟨w.heap.size, 5, none⟩ = some (.slice none 0 0) := C4.out.cell 5
  have Cl_ : w.heap.size < w4.heap.size := C4.out.lt
  have Cf_ := C4.out.frz
  have P0_ : w4.cell? ⟨w.heap.size + 1, 0, none⟩ = some (.int .u64 0) := P4.out.cell 0
  have P1_ : w4.cell? ⟨w.heap.size + 1, 1, none⟩ = some (.int .i64 0) := P4.out.cell 1
  have P2_ : w4.cell? ⟨w.heap.size + 1, 2, none⟩ = some (.bool false) := P4.out.cell 2
  have P3_ : w4.cell? ⟨w.heap.size + 1, 3, none⟩ = some (.int .u64 0) := P4.out.cell 3
  have P4_ : w4.cell? ⟨w.heap.size + 1, 4, none⟩ = some (.slice none 0 0) := P4.out.cell 4
  have P5_ : w4.cell? ⟨w.heap.size + 1, 5, none⟩ = some (.slice none 0 0) := P4.out.cell 5
  have Pl_ : w.heap.size + 1 < w4.heap.size := P4.out.lt
  have Pf_ := P4.out.frz
  have Q0_ : w4.cell? ⟨w.heap.size + 1 + 1, 0, none⟩ = some (.bool false) := Q4.out.cell 0
  have Q1_ : w4.cell? ⟨w.heap.size + 1 + 1, 1, none⟩ = some (.bool false) := Q4.out.cell 1
  have Q2_ : w4.cell? ⟨w.heap.size + 1 + 1, 2, none⟩ = some (.int .u64 0) := Q4.out.cell 2
  have Q3_ : w4.cell? ⟨w.heap.size + 1 + 1, 3, none⟩ = some (.slice none 0 0) := Q4.out.cell 3
  have Q4_ : w4.cell? ⟨w.heap.size + 1 + 1, 4, none⟩ = some (.slice none 0 0) := Q4.out.cell 4
  have Ql_ : w.heap.size + 1 + 1 < w4.heap.size := Q4.out.lt
  have Qf_ := Q4.out.frz
  have S0_ : w4.cell? ⟨w.heap.size + 1 + 1 + 1, 0, none⟩ = some (.bool false) := S4.out.cell 0
  have S1_ : w4.cell? ⟨w.heap.size + 1 + 1 + 1, 1, none⟩ = some (.bool true) := S4.out.cell 1
  have S2_ : w4.cell? ⟨w.heap.size + 1 + 1 + 1, 2, none⟩ = some (.int .u64 0) := S4.out.cell 2
  have S3_ : w4.cell? ⟨w.heap.size + 1 + 1 + 1, 3, none⟩ = some (.slice A2 n' c2) := S4.out.cell 3
  have S4_ : w4.cell? ⟨w.heap.size + 1 + 1 + 1, 4, none⟩ = some (.slice M2 m' d2) := S4.out.cell 4
  have Sl_ : w.heap.size + 1 + 1 + 1 < w4.heap.size := S4.out.lt
  have Sf_ := S4.out.frz
  have nCP := cell_far (show w.heap.size ≠ w.heap.size + 1 by omega)
  have nCQ := cell_far (show w.heap.size ≠ w.heap.size + 1 + 1 by omega)
  have nSP := cell_far (show w.heap.size + 1 + 1 + 1 ≠ w.heap.size + 1 by omega)
  have nSQ := cell_far (show w.heap.size + 1 + 1 + 1 ≠ w.heap.size + 1 + 1 by omega)
  go_region_held3 (fun w' => w'.cell? ⟨w.heap.size, 0, none⟩ = some (.int .u64 win) ∧ w'.cell? ⟨w.heap.size, 1, none⟩ = some (.int .i64 most) ∧ w'.cell? ⟨w.heap.size, 2, none⟩ = some (.bool false) ∧ w'.cell? ⟨w.heap.size, 3, none⟩ = some (.int .u64 e) ∧ w'.cell? ⟨w.heap.size, 4, none⟩ = some (.slice none 0 0) ∧ w'.cell? ⟨w.heap.size, 5, none⟩ = some (.slice none 0 0) ∧ w'.cell? ⟨w.heap.size + 1 + 1 + 1, 0, none⟩ = some (.bool false) ∧ w'.cell? ⟨w.heap.size + 1 + 1 + 1, 1, none⟩ = some (.bool true) ∧ w'.cell? ⟨w.heap.size + 1 + 1 + 1, 2, none⟩ = some (.int .u64 0) ∧ w'.cell? ⟨w.heap.size + 1 + 1 + 1, 3, none⟩ = some (.slice A2 n' c2) ∧ w'.cell? ⟨w.heap.size + 1 + 1 + 1, 4, none⟩ = some (.slice M2 m' d2)) (first | go_keep | (simp only [nCP, nCQ, nSP, nSQ, cell_drew]; exact ⟨C0_, C1_, C2_, C3_, C4_, C5_, S0_, S1_, S2_, S3_, S4_⟩)) (fail)
  clear nCP nCQ nSP nSQ
  clear C0_ C1_ C2_ C3_ C4_ C5_ Cl_ Cf_ P0_ P1_ P2_ P3_ P4_ P5_ Pl_ Pf_ Q0_ Q1_ Q2_ Q3_ Q4_ Ql_ Qf_ S0_ S1_ S2_ S3_ S4_ Sl_ Sf_
  have PF : Hid (Blk (((((((((((w4.setCell ⟨w.heap.size + 1, 0, none⟩ (.int .u64 win)).setCell ⟨w.heap.size + 1, 1, none⟩ (.int .i64 most)).setCell ⟨w.heap.size + 1, 2, none⟩ (.bool false)).setCell ⟨w.heap.size + 1, 3, none⟩ (.int .u64 e)).setCell ⟨w.heap.size + 1, 4, none⟩ (.slice none 0 0)).setCell ⟨w.heap.size + 1, 5, none⟩ (.slice none 0 0)).setCell ⟨w.heap.size + 1 + 1, 0, none⟩ (.bool false)).setCell ⟨w.heap.size + 1 + 1, 1, none⟩ (.bool true)).setCell ⟨w.heap.size + 1 + 1, 2, none⟩ (.int .u64 0)).setCell ⟨w.heap.size + 1 + 1, 3, none⟩ (.slice A2 n' c2)).setCell ⟨w.heap.size + 1 + 1, 4, none⟩ (.slice M2 m' d2)).drew (w.heap.size + 1) 32 #[.int .u64 win, .int .i64 most, .bool false, .int .u64 e, .slice none 0 0, .slice none 0 0]) := Lib.hid ((((((((((((P4.out.set 0 (.int .u64 win)).set 1 (.int .i64 most)).set 2 (.bool false)).set 3 (.int .u64 e)).set 4 (.slice none 0 0)).set 5 (.slice none 0 0)).far (p := ⟨w.heap.size + 1 + 1, 0, none⟩) (show w.heap.size + 1 ≠ w.heap.size + 1 + 1 by omega) (.bool false)).far (p := ⟨w.heap.size + 1 + 1, 1, none⟩) (show w.heap.size + 1 ≠ w.heap.size + 1 + 1 by omega) (.bool true)).far (p := ⟨w.heap.size + 1 + 1, 2, none⟩) (show w.heap.size + 1 ≠ w.heap.size + 1 + 1 by omega) (.int .u64 0)).far (p := ⟨w.heap.size + 1 + 1, 3, none⟩) (show w.heap.size + 1 ≠ w.heap.size + 1 + 1 by omega) (.slice A2 n' c2)).far (p := ⟨w.heap.size + 1 + 1, 4, none⟩) (show w.heap.size + 1 ≠ w.heap.size + 1 + 1 by omega) (.slice M2 m' d2)).drew)
  have QF : Hid (Blk (((((((((((w4.setCell ⟨w.heap.size + 1, 0, none⟩ (.int .u64 win)).setCell ⟨w.heap.size + 1, 1, none⟩ (.int .i64 most)).setCell ⟨w.heap.size + 1, 2, none⟩ (.bool false)).setCell ⟨w.heap.size + 1, 3, none⟩ (.int .u64 e)).setCell ⟨w.heap.size + 1, 4, none⟩ (.slice none 0 0)).setCell ⟨w.heap.size + 1, 5, none⟩ (.slice none 0 0)).setCell ⟨w.heap.size + 1 + 1, 0, none⟩ (.bool false)).setCell ⟨w.heap.size + 1 + 1, 1, none⟩ (.bool true)).setCell ⟨w.heap.size + 1 + 1, 2, none⟩ (.int .u64 0)).setCell ⟨w.heap.size + 1 + 1, 3, none⟩ (.slice A2 n' c2)).setCell ⟨w.heap.size + 1 + 1, 4, none⟩ (.slice M2 m' d2)).drew (w.heap.size + 1 + 1) 45 #[.bool false, .bool true, .int .u64 0, .slice A2 n' c2, .slice M2 m' d2]) := Lib.hid ((((((((((((Q4.out.far (p := ⟨w.heap.size + 1, 0, none⟩) (show w.heap.size + 1 + 1 ≠ w.heap.size + 1 by omega) (.int .u64 win)).far (p := ⟨w.heap.size + 1, 1, none⟩) (show w.heap.size + 1 + 1 ≠ w.heap.size + 1 by omega) (.int .i64 most)).far (p := ⟨w.heap.size + 1, 2, none⟩) (show w.heap.size + 1 + 1 ≠ w.heap.size + 1 by omega) (.bool false)).far (p := ⟨w.heap.size + 1, 3, none⟩) (show w.heap.size + 1 + 1 ≠ w.heap.size + 1 by omega) (.int .u64 e)).far (p := ⟨w.heap.size + 1, 4, none⟩) (show w.heap.size + 1 + 1 ≠ w.heap.size + 1 by omega) (.slice none 0 0)).far (p := ⟨w.heap.size + 1, 5, none⟩) (show w.heap.size + 1 + 1 ≠ w.heap.size + 1 by omega) (.slice none 0 0)).set 0 (.bool false)).set 1 (.bool true)).set 2 (.int .u64 0)).set 3 (.slice A2 n' c2)).set 4 (.slice M2 m' d2)).drew)
  have UF : Hid (Upd (fun _ => False) w (((((((((((w4.setCell ⟨w.heap.size + 1, 0, none⟩ (.int .u64 win)).setCell ⟨w.heap.size + 1, 1, none⟩ (.int .i64 most)).setCell ⟨w.heap.size + 1, 2, none⟩ (.bool false)).setCell ⟨w.heap.size + 1, 3, none⟩ (.int .u64 e)).setCell ⟨w.heap.size + 1, 4, none⟩ (.slice none 0 0)).setCell ⟨w.heap.size + 1, 5, none⟩ (.slice none 0 0)).setCell ⟨w.heap.size + 1 + 1, 0, none⟩ (.bool false)).setCell ⟨w.heap.size + 1 + 1, 1, none⟩ (.bool true)).setCell ⟨w.heap.size + 1 + 1, 2, none⟩ (.int .u64 0)).setCell ⟨w.heap.size + 1 + 1, 3, none⟩ (.slice A2 n' c2)).setCell ⟨w.heap.size + 1 + 1, 4, none⟩ (.slice M2 m' d2)).drew) := Lib.hid ((((((((((((U4.out.set (p := ⟨w.heap.size + 1, 0, none⟩) (.inr (show w.heap.size ≤ w.heap.size + 1 by omega)) (.int .u64 win)).set (p := ⟨w.heap.size + 1, 1, none⟩) (.inr (show w.heap.size ≤ w.heap.size + 1 by omega)) (.int .i64 most)).set (p := ⟨w.heap.size + 1, 2, none⟩) (.inr (show w.heap.size ≤ w.heap.size + 1 by omega)) (.bool false)).set (p := ⟨w.heap.size + 1, 3, none⟩) (.inr (show w.heap.size ≤ w.heap.size + 1 by omega)) (.int .u64 e)).set (p := ⟨w.heap.size + 1, 4, none⟩) (.inr (show w.heap.size ≤ w.heap.size + 1 by omega)) (.slice none 0 0)).set (p := ⟨w.heap.size + 1, 5, none⟩) (.inr (show w.heap.size ≤ w.heap.size + 1 by omega)) (.slice none 0 0)).set (p := ⟨w.heap.size + 1 + 1, 0, none⟩) (.inr (show w.heap.size ≤ w.heap.size + 1 + 1 by omega)) (.bool false)).set (p := ⟨w.heap.size + 1 + 1, 1, none⟩) (.inr (show w.heap.size ≤ w.heap.size + 1 + 1 by omega)) (.bool true)).set (p := ⟨w.heap.size + 1 + 1, 2, none⟩) (.inr (show w.heap.size ≤ w.heap.size + 1 + 1 by omega)) (.int .u64 0)).set (p := ⟨w.heap.size + 1 + 1, 3, none⟩) (.inr (show w.heap.size ≤ w.heap.size + 1 + 1 by omega)) (.slice A2 n' c2)).set (p := ⟨w.heap.size + 1 + 1, 4, none⟩) (.inr (show w.heap.size ≤ w.heap.size + 1 + 1 by omega)) (.slice M2 m' d2)).drew)
  have AF : Hid (Sl (((((((((((w4.setCell ⟨w.heap.size + 1, 0, none⟩ (.int .u64 win)).setCell ⟨w.heap.size + 1, 1, none⟩ (.int .i64 most)).setCell ⟨w.heap.size + 1, 2, none⟩ (.bool false)).setCell ⟨w.heap.size + 1, 3, none⟩ (.int .u64 e)).setCell ⟨w.heap.size + 1, 4, none⟩ (.slice none 0 0)).setCell ⟨w.heap.size + 1, 5, none⟩ (.slice none 0 0)).setCell ⟨w.heap.size + 1 + 1, 0, none⟩ (.bool false)).setCell ⟨w.heap.size + 1 + 1, 1, none⟩ (.bool true)).setCell ⟨w.heap.size + 1 + 1, 2, none⟩ (.int .u64 0)).setCell ⟨w.heap.size + 1 + 1, 3, none⟩ (.slice A2 n' c2)).setCell ⟨w.heap.size + 1 + 1, 4, none⟩ (.slice M2 m' d2)).drew A2 n' c2 (nums xs')) := Lib.hid (KA4.out.keep (((((((((((((Upd.refl (KF w 4) w4).set (p := ⟨w.heap.size + 1, 0, none⟩) (.inl (show KF w 4 (w.heap.size + 1) from ⟨by omega, by omega⟩)) (.int .u64 win)).set (p := ⟨w.heap.size + 1, 1, none⟩) (.inl (show KF w 4 (w.heap.size + 1) from ⟨by omega, by omega⟩)) (.int .i64 most)).set (p := ⟨w.heap.size + 1, 2, none⟩) (.inl (show KF w 4 (w.heap.size + 1) from ⟨by omega, by omega⟩)) (.bool false)).set (p := ⟨w.heap.size + 1, 3, none⟩) (.inl (show KF w 4 (w.heap.size + 1) from ⟨by omega, by omega⟩)) (.int .u64 e)).set (p := ⟨w.heap.size + 1, 4, none⟩) (.inl (show KF w 4 (w.heap.size + 1) from ⟨by omega, by omega⟩)) (.slice none 0 0)).set (p := ⟨w.heap.size + 1, 5, none⟩) (.inl (show KF w 4 (w.heap.size + 1) from ⟨by omega, by omega⟩)) (.slice none 0 0)).set (p := ⟨w.heap.size + 1 + 1, 0, none⟩) (.inl (show KF w 4 (w.heap.size + 1 + 1) from ⟨by omega, by omega⟩)) (.bool false)).set (p := ⟨w.heap.size + 1 + 1, 1, none⟩) (.inl (show KF w 4 (w.heap.size + 1 + 1) from ⟨by omega, by omega⟩)) (.bool true)).set (p := ⟨w.heap.size + 1 + 1, 2, none⟩) (.inl (show KF w 4 (w.heap.size + 1 + 1) from ⟨by omega, by omega⟩)) (.int .u64 0)).set (p := ⟨w.heap.size + 1 + 1, 3, none⟩) (.inl (show KF w 4 (w.heap.size + 1 + 1) from ⟨by omega, by omega⟩)) (.slice A2 n' c2)).set (p := ⟨w.heap.size + 1 + 1, 4, none⟩) (.inl (show KF w 4 (w.heap.size + 1 + 1) from ⟨by omega, by omega⟩)) (.slice M2 m' d2)).drew) (fun _ h => h)).sl
  have MF : Hid (Sl (((((((((((w4.setCell ⟨w.heap.size + 1, 0, none⟩ (.int .u64 win)).setCell ⟨w.heap.size + 1, 1, none⟩ (.int .i64 most)).setCell ⟨w.heap.size + 1, 2, none⟩ (.bool false)).setCell ⟨w.heap.size + 1, 3, none⟩ (.int .u64 e)).setCell ⟨w.heap.size + 1, 4, none⟩ (.slice none 0 0)).setCell ⟨w.heap.size + 1, 5, none⟩ (.slice none 0 0)).setCell ⟨w.heap.size + 1 + 1, 0, none⟩ (.bool false)).setCell ⟨w.heap.size + 1 + 1, 1, none⟩ (.bool true)).setCell ⟨w.heap.size + 1 + 1, 2, none⟩ (.int .u64 0)).setCell ⟨w.heap.size + 1 + 1, 3, none⟩ (.slice A2 n' c2)).setCell ⟨w.heap.size + 1 + 1, 4, none⟩ (.slice M2 m' d2)).drew M2 m' d2 (prs ms')) := Lib.hid (KM4.out.keep (((((((((((((Upd.refl (KF w 4) w4).set (p := ⟨w.heap.size + 1, 0, none⟩) (.inl (show KF w 4 (w.heap.size + 1) from ⟨by omega, by omega⟩)) (.int .u64 win)).set (p := ⟨w.heap.size + 1, 1, none⟩) (.inl (show KF w 4 (w.heap.size + 1) from ⟨by omega, by omega⟩)) (.int .i64 most)).set (p := ⟨w.heap.size + 1, 2, none⟩) (.inl (show KF w 4 (w.heap.size + 1) from ⟨by omega, by omega⟩)) (.bool false)).set (p := ⟨w.heap.size + 1, 3, none⟩) (.inl (show KF w 4 (w.heap.size + 1) from ⟨by omega, by omega⟩)) (.int .u64 e)).set (p := ⟨w.heap.size + 1, 4, none⟩) (.inl (show KF w 4 (w.heap.size + 1) from ⟨by omega, by omega⟩)) (.slice none 0 0)).set (p := ⟨w.heap.size + 1, 5, none⟩) (.inl (show KF w 4 (w.heap.size + 1) from ⟨by omega, by omega⟩)) (.slice none 0 0)).set (p := ⟨w.heap.size + 1 + 1, 0, none⟩) (.inl (show KF w 4 (w.heap.size + 1 + 1) from ⟨by omega, by omega⟩)) (.bool false)).set (p := ⟨w.heap.size + 1 + 1, 1, none⟩) (.inl (show KF w 4 (w.heap.size + 1 + 1) from ⟨by omega, by omega⟩)) (.bool true)).set (p := ⟨w.heap.size + 1 + 1, 2, none⟩) (.inl (show KF w 4 (w.heap.size + 1 + 1) from ⟨by omega, by omega⟩)) (.int .u64 0)).set (p := ⟨w.heap.size + 1 + 1, 3, none⟩) (.inl (show KF w 4 (w.heap.size + 1 + 1) from ⟨by omega, by omega⟩)) (.slice A2 n' c2)).set (p := ⟨w.heap.size + 1 + 1, 4, none⟩) (.inl (show KF w 4 (w.heap.size + 1 + 1) from ⟨by omega, by omega⟩)) (.slice M2 m' d2)).drew) (fun _ h => h)).sl
  generalize (((((((((((w4.setCell ⟨w.heap.size + 1, 0, none⟩ (.int .u64 win)).setCell ⟨w.heap.size + 1, 1, none⟩ (.int .i64 most)).setCell ⟨w.heap.size + 1, 2, none⟩ (.bool false)).setCell ⟨w.heap.size + 1, 3, none⟩ (.int .u64 e)).setCell ⟨w.heap.size + 1, 4, none⟩ (.slice none 0 0)).setCell ⟨w.heap.size + 1, 5, none⟩ (.slice none 0 0)).setCell ⟨w.heap.size + 1 + 1, 0, none⟩ (.bool false)).setCell ⟨w.heap.size + 1 + 1, 1, none⟩ (.bool true)).setCell ⟨w.heap.size + 1 + 1, 2, none⟩ (.int .u64 0)).setCell ⟨w.heap.size + 1 + 1, 3, none⟩ (.slice A2 n' c2)).setCell ⟨w.heap.size + 1 + 1, 4, none⟩ (.slice M2 m' d2)).drew = w5 at *
  have p0 : w5.cell? ⟨w.heap.size + 1, 0, none⟩ = some (.int .u64 win) := PF.out.cell 0
  have p1 : w5.cell? ⟨w.heap.size + 1, 1, none⟩ = some (.int .i64 most) := PF.out.cell 1
  have p2 : w5.cell? ⟨w.heap.size + 1, 2, none⟩ = some (.bool false) := PF.out.cell 2
  have p3 : w5.cell? ⟨w.heap.size + 1, 3, none⟩ = some (.int .u64 e) := PF.out.cell 3
  have p4 : w5.cell? ⟨w.heap.size + 1, 4, none⟩ = some (.slice none 0 0) := PF.out.cell 4
  have p5 : w5.cell? ⟨w.heap.size + 1, 5, none⟩ = some (.slice none 0 0) := PF.out.cell 5
  have q0 : w5.cell? ⟨w.heap.size + 1 + 1, 0, none⟩ = some (.bool false) := QF.out.cell 0
  have q1 : w5.cell? ⟨w.heap.size + 1 + 1, 1, none⟩ = some (.bool true) := QF.out.cell 1
  have q2 : w5.cell? ⟨w.heap.size + 1 + 1, 2, none⟩ = some (.int .u64 0) := QF.out.cell 2
  have q3 : w5.cell? ⟨w.heap.size + 1 + 1, 3, none⟩ = some (.slice A2 n' c2) := QF.out.cell 3
  have q4 : w5.cell? ⟨w.heap.size + 1 + 1, 4, none⟩ = some (.slice M2 m' d2) := QF.out.cell 4
  have lP := PF.out.lt
  have lQ := QF.out.lt
  go_wp2
  refine bodyPost_ret (v := .tuple #[.agg #[.int .u64 win, .int .i64 most, .bool false, .int .u64 e, .slice none 0 0, .slice none 0 0], .agg #[.bool false, .bool true, .int .u64 0, .slice A2 n' c2, .slice M2 m' d2]]) (by simp [results, Try.results14, go_sem, p0, p1, p2, p3, p4, p5, q0, q1, q2, q3, q4, lP, lQ]) rfl ⟨A2, c2, M2, d2, rfl, AF.out, MF.out, NW.out, UF.out.below0⟩
set_option maxRecDepth 100000 in
set_option maxHeartbeats 4000000 in
theorem radd_old_more {win most now id arg e : Int} {A M : Option Addr} {n c m d n' m' : Nat} {xs xs' : List Int} {ms ms' : List (Int × Int)} {ok : Bool} (hr : ¬ most ≤ (n' : Int)) (hb : badd xs ms id arg most = (xs', ms', ok)) (hxn : xs.length = n) (hmn : ms.length = m) (hxn' : xs'.length = n') (hmn' : ms'.length = m') (hn1 : n ≤ 900) (hm1 : m ≤ 900) (w : World) (ha : Sl w A n c (nums xs)) (hmm : Sl w M m d (prs ms)) :
    Calls Try.prog 14 #[.agg #[.int .u64 win, .int .i64 most, .bool true, .int .u64 e, .slice A n c, .slice M m d], .int .u64 now, .int .i64 id, .int .i64 arg] w fun e_ w' => ∃ A2 c2 M2 d2, e_ = .returned (.tuple #[.agg #[.int .u64 win, .int .i64 most, .bool true, .int .u64 e, .slice A2 n' c2, .slice M2 m' d2], .agg #[.bool false, .bool false, .int .u64 0, .slice none 0 0, .slice none 0 0]]) ∧ Sl w' A2 n' c2 (nums xs') ∧ Sl w' M2 m' d2 (prs ms') ∧ RNew w A2 M2 A M xs' xs ms' ms ∧ Below w.heap.size w w' := by
  have hn2 : n' ≤ 901 := by
    have := badd_len1 xs ms id arg most
    rw [hb, hxn', hxn] at this
    omega
  have HBB := Lib.hid hb
  have HXN := Lib.hid hxn
  have HMN := Lib.hid hmn
  have HXN' := Lib.hid hxn'
  have HMN' := Lib.hid hmn'
  have HAw := Lib.hid ha
  have HMw := Lib.hid hmm
  have C0 := Lib.hid ((((Blk.new w #[.int .u64 win, .int .i64 most, .bool true, .int .u64 e, .slice A n c, .slice M m d] 32).alloc (.cells #[.int .u64 0, .int .i64 0, .bool false, .int .u64 0, .slice none 0 0, .slice none 0 0] 32)).alloc (.cells #[.bool false, .bool false, .int .u64 0, .slice none 0 0, .slice none 0 0] 45)).alloc (.cells #[.bool false, .bool false, .int .u64 0, .slice none 0 0, .slice none 0 0] 45))
  have P0 := Lib.hid (((Blk.new1 w (.cells #[.int .u64 win, .int .i64 most, .bool true, .int .u64 e, .slice A n c, .slice M m d] 32) #[.int .u64 0, .int .i64 0, .bool false, .int .u64 0, .slice none 0 0, .slice none 0 0] 32).alloc (.cells #[.bool false, .bool false, .int .u64 0, .slice none 0 0, .slice none 0 0] 45)).alloc (.cells #[.bool false, .bool false, .int .u64 0, .slice none 0 0, .slice none 0 0] 45))
  have Q0 := Lib.hid ((Blk.new2 w (.cells #[.int .u64 win, .int .i64 most, .bool true, .int .u64 e, .slice A n c, .slice M m d] 32) (.cells #[.int .u64 0, .int .i64 0, .bool false, .int .u64 0, .slice none 0 0, .slice none 0 0] 32) #[.bool false, .bool false, .int .u64 0, .slice none 0 0, .slice none 0 0] 45).alloc (.cells #[.bool false, .bool false, .int .u64 0, .slice none 0 0, .slice none 0 0] 45))
  have S0 := Lib.hid (Blk.new3 w (.cells #[.int .u64 win, .int .i64 most, .bool true, .int .u64 e, .slice A n c, .slice M m d] 32) (.cells #[.int .u64 0, .int .i64 0, .bool false, .int .u64 0, .slice none 0 0, .slice none 0 0] 32) (.cells #[.bool false, .bool false, .int .u64 0, .slice none 0 0, .slice none 0 0] 45) #[.bool false, .bool false, .int .u64 0, .slice none 0 0, .slice none 0 0] 45)
  have U0 : Hid (Upd (fun _ => False) w _) := Lib.hid (((((Upd.refl (fun _ => False) w).alloc (.cells #[.int .u64 win, .int .i64 most, .bool true, .int .u64 e, .slice A n c, .slice M m d] 32)).alloc (.cells #[.int .u64 0, .int .i64 0, .bool false, .int .u64 0, .slice none 0 0, .slice none 0 0] 32)).alloc (.cells #[.bool false, .bool false, .int .u64 0, .slice none 0 0, .slice none 0 0] 45)).alloc (.cells #[.bool false, .bool false, .int .u64 0, .slice none 0 0, .slice none 0 0] 45))
  clear hb hxn hmn hxn' hmn' ha hmm
  go_enter Try.func14, Try.ntmps14
  go_wp2_with fail
  refine Calls.gen (fun W => Blk W (w.heap.size) 32 #[.int .u64 win, .int .i64 most, .bool true, .int .u64 e, .slice A n c, .slice M m d] ∧ Blk W (w.heap.size + 1) 32 #[.int .u64 0, .int .i64 0, .bool false, .int .u64 0, .slice none 0 0, .slice none 0 0] ∧ Blk W (w.heap.size + 1 + 1) 45 #[.bool false, .bool false, .int .u64 0, .slice none 0 0, .slice none 0 0] ∧ Blk W (w.heap.size + 1 + 1 + 1) 45 #[.bool false, .bool false, .int .u64 0, .slice none 0 0, .slice none 0 0] ∧ Upd (fun _ => False) w W) ⟨C0.out, P0.out, Q0.out, S0.out, U0.out⟩ ?_
  rintro w2 ⟨qC, qP, qQ, qS, qU⟩
  have C2 := Lib.hid qC
  have P2 := Lib.hid qP
  have Q2 := Lib.hid qQ
  have S2 := Lib.hid qS
  have U2 := Lib.hid qU
  clear qC qP qQ qS qU
  clear C0 P0 Q0 S0 U0
  have l2 := S2.out.lt
  refine (radd_n HBB.out HXN.out HMN.out HXN'.out HMN'.out (by omega) (by omega) _ (HAw.out.upd0 U2.out) (HMw.out.upd0 U2.out)).mono ?_
  rintro e1 w3 ⟨A2, c2, M2, d2, rfl, ha, hm, hnw, hd⟩
  have hu23 := U2.out.trans (Upd.of_below hd (fun _ => False)) (fun _ h => h.elim)
  have KK : Hid (Kp w3 (KF w 4) A2 n' c2 (nums xs') ∧ Kp w3 (KF w 4) M2 m' d2 (prs ms') ∧ RNew w A2 M2 A M xs' xs ms' ms) := Lib.hid (by
    rcases hnw with ⟨rfl, rfl, rfl, rfl⟩ | ⟨h1, h2⟩
    · exact ⟨⟨ha, (Kp.old HAw.out hu23 (F := KF w 4) (fun k hk => hk.1)).off⟩, ⟨hm, (Kp.old HMw.out hu23 (F := KF w 4) (fun k hk => hk.1)).off⟩, .inl ⟨rfl, rfl, rfl, rfl⟩⟩
    · exact ⟨Kp.of_new ha (fun b o e hk => by have := h1 b o e; have := hk.2; omega), Kp.of_new hm (fun b o e hk => by have := h2 b o e; have := hk.2; omega), .inr ⟨fun b o e => by have := h1 b o e; omega, fun b o e => by have := h2 b o e; omega⟩⟩)
  have KA3 := Lib.hid KK.out.1
  have KM3 := Lib.hid KK.out.2.1
  have NW := Lib.hid KK.out.2.2
  clear KK ha hm hnw hu23
  have hu3 := Upd.of_below hd (fun _ => False)
  have C3 := Lib.hid (C2.out.upd hu3 (fun h => h))
  have P3 := Lib.hid (P2.out.upd hu3 (fun h => h))
  have Q3 := Lib.hid (Q2.out.upd hu3 (fun h => h))
  have S3 := Lib.hid (S2.out.upd hu3 (fun h => h))
  have U3 := Lib.hid (U2.out.trans hu3 (fun _ h => h.elim))
  clear hd hu3 C2 P2 Q2 S2 U2 l2
  have C0_ : w3.cell? ⟨w.heap.size, 0, none⟩ = some (.int .u64 win) := C3.out.cell 0
  have C1_ : w3.cell? ⟨w.heap.size, 1, none⟩ = some (.int .i64 most) := C3.out.cell 1
  have C2_ : w3.cell? ⟨w.heap.size, 2, none⟩ = some (.bool true) := C3.out.cell 2
  have C3_ : w3.cell? ⟨w.heap.size, 3, none⟩ = some (.int .u64 e) := C3.out.cell 3
  have C4_ : w3.cell? ⟨w.heap.size, 4, none⟩ = some (.slice A n c) := C3.out.cell 4
  have C5_ : w3.cell? ⟨w.heap.size, 5, none⟩ = some (.slice M m d) := C3.out.cell 5
  have Cl_ : w.heap.size < w3.heap.size := C3.out.lt
  have Cf_ := C3.out.frz
  have P0_ : w3.cell? ⟨w.heap.size + 1, 0, none⟩ = some (.int .u64 0) := P3.out.cell 0
  have P1_ : w3.cell? ⟨w.heap.size + 1, 1, none⟩ = some (.int .i64 0) := P3.out.cell 1
  have P2_ : w3.cell? ⟨w.heap.size + 1, 2, none⟩ = some (.bool false) := P3.out.cell 2
  have P3_ : w3.cell? ⟨w.heap.size + 1, 3, none⟩ = some (.int .u64 0) := P3.out.cell 3
  have P4_ : w3.cell? ⟨w.heap.size + 1, 4, none⟩ = some (.slice none 0 0) := P3.out.cell 4
  have P5_ : w3.cell? ⟨w.heap.size + 1, 5, none⟩ = some (.slice none 0 0) := P3.out.cell 5
  have Pl_ : w.heap.size + 1 < w3.heap.size := P3.out.lt
  have Pf_ := P3.out.frz
  have Q0_ : w3.cell? ⟨w.heap.size + 1 + 1, 0, none⟩ = some (.bool false) := Q3.out.cell 0
  have Q1_ : w3.cell? ⟨w.heap.size + 1 + 1, 1, none⟩ = some (.bool false) := Q3.out.cell 1
  have Q2_ : w3.cell? ⟨w.heap.size + 1 + 1, 2, none⟩ = some (.int .u64 0) := Q3.out.cell 2
  have Q3_ : w3.cell? ⟨w.heap.size + 1 + 1, 3, none⟩ = some (.slice none 0 0) := Q3.out.cell 3
  have Q4_ : w3.cell? ⟨w.heap.size + 1 + 1, 4, none⟩ = some (.slice none 0 0) := Q3.out.cell 4
  have Ql_ : w.heap.size + 1 + 1 < w3.heap.size := Q3.out.lt
  have Qf_ := Q3.out.frz
  have S0_ : w3.cell? ⟨w.heap.size + 1 + 1 + 1, 0, none⟩ = some (.bool false) := S3.out.cell 0
  have S1_ : w3.cell? ⟨w.heap.size + 1 + 1 + 1, 1, none⟩ = some (.bool false) := S3.out.cell 1
  have S2_ : w3.cell? ⟨w.heap.size + 1 + 1 + 1, 2, none⟩ = some (.int .u64 0) := S3.out.cell 2
  have S3_ : w3.cell? ⟨w.heap.size + 1 + 1 + 1, 3, none⟩ = some (.slice none 0 0) := S3.out.cell 3
  have S4_ : w3.cell? ⟨w.heap.size + 1 + 1 + 1, 4, none⟩ = some (.slice none 0 0) := S3.out.cell 4
  have Sl_ : w.heap.size + 1 + 1 + 1 < w3.heap.size := S3.out.lt
  have Sf_ := S3.out.frz
  go_wp2_with fail
  clear C0_ C1_ C2_ C3_ C4_ C5_ Cl_ Cf_ P0_ P1_ P2_ P3_ P4_ P5_ Pl_ Pf_ Q0_ Q1_ Q2_ Q3_ Q4_ Ql_ Qf_ S0_ S1_ S2_ S3_ S4_ Sl_ Sf_
  refine Code.gen (fun W => Blk W (w.heap.size) 32 #[.int .u64 win, .int .i64 most, .bool true, .int .u64 e, .slice A2 n' c2, .slice M2 m' d2] ∧ Blk W (w.heap.size + 1) 32 #[.int .u64 0, .int .i64 0, .bool false, .int .u64 0, .slice none 0 0, .slice none 0 0] ∧ Blk W (w.heap.size + 1 + 1) 45 #[.bool false, .bool false, .int .u64 0, .slice none 0 0, .slice none 0 0] ∧ Blk W (w.heap.size + 1 + 1 + 1) 45 #[.bool false, .bool false, .int .u64 0, .slice none 0 0, .slice none 0 0] ∧ Upd (fun _ => False) w W ∧ Kp W (KF w 4) A2 n' c2 (nums xs') ∧ Kp W (KF w 4) M2 m' d2 (prs ms')) ⟨(((C3.out.set 4 (.slice A2 n' c2)).set 5 (.slice M2 m' d2)).alloc (.cells #[.slice A2 n' c2, .slice M2 m' d2] 30)), (((P3.out.far (p := ⟨w.heap.size, 4, none⟩) (show w.heap.size + 1 ≠ w.heap.size by omega) (.slice A2 n' c2)).far (p := ⟨w.heap.size, 5, none⟩) (show w.heap.size + 1 ≠ w.heap.size by omega) (.slice M2 m' d2)).alloc (.cells #[.slice A2 n' c2, .slice M2 m' d2] 30)), (((Q3.out.far (p := ⟨w.heap.size, 4, none⟩) (show w.heap.size + 1 + 1 ≠ w.heap.size by omega) (.slice A2 n' c2)).far (p := ⟨w.heap.size, 5, none⟩) (show w.heap.size + 1 + 1 ≠ w.heap.size by omega) (.slice M2 m' d2)).alloc (.cells #[.slice A2 n' c2, .slice M2 m' d2] 30)), (((S3.out.far (p := ⟨w.heap.size, 4, none⟩) (show w.heap.size + 1 + 1 + 1 ≠ w.heap.size by omega) (.slice A2 n' c2)).far (p := ⟨w.heap.size, 5, none⟩) (show w.heap.size + 1 + 1 + 1 ≠ w.heap.size by omega) (.slice M2 m' d2)).alloc (.cells #[.slice A2 n' c2, .slice M2 m' d2] 30)), (((U3.out.set (p := ⟨w.heap.size, 4, none⟩) (.inr (show w.heap.size ≤ w.heap.size by omega)) (.slice A2 n' c2)).set (p := ⟨w.heap.size, 5, none⟩) (.inr (show w.heap.size ≤ w.heap.size by omega)) (.slice M2 m' d2)).alloc (.cells #[.slice A2 n' c2, .slice M2 m' d2] 30)), KA3.out.keep ((((Upd.refl (KF w 4) w3).set (p := ⟨w.heap.size, 4, none⟩) (.inl (show KF w 4 (w.heap.size) from ⟨by omega, by omega⟩)) (.slice A2 n' c2)).set (p := ⟨w.heap.size, 5, none⟩) (.inl (show KF w 4 (w.heap.size) from ⟨by omega, by omega⟩)) (.slice M2 m' d2)).alloc (.cells #[.slice A2 n' c2, .slice M2 m' d2] 30)) (fun _ h => h), KM3.out.keep ((((Upd.refl (KF w 4) w3).set (p := ⟨w.heap.size, 4, none⟩) (.inl (show KF w 4 (w.heap.size) from ⟨by omega, by omega⟩)) (.slice A2 n' c2)).set (p := ⟨w.heap.size, 5, none⟩) (.inl (show KF w 4 (w.heap.size) from ⟨by omega, by omega⟩)) (.slice M2 m' d2)).alloc (.cells #[.slice A2 n' c2, .slice M2 m' d2] 30)) (fun _ h => h)⟩ ?_
  rintro w4 ⟨qC, qP, qQ, qS, qU, qKA, qKM⟩
  have C4 := Lib.hid qC
  have P4 := Lib.hid qP
  have Q4 := Lib.hid qQ
  have S4 := Lib.hid qS
  have U4 := Lib.hid qU
  have KA4 := Lib.hid qKA
  have KM4 := Lib.hid qKM
  clear qC qP qQ qS qU qKA qKM
  clear C3 P3 Q3 S3 U3 KA3 KM3
  have C0_ : w4.cell? ⟨w.heap.size, 0, none⟩ = some (.int .u64 win) := C4.out.cell 0
  have C1_ : w4.cell? ⟨w.heap.size, 1, none⟩ = some (.int .i64 most) := C4.out.cell 1
  have C2_ : w4.cell? ⟨w.heap.size, 2, none⟩ = some (.bool true) := C4.out.cell 2
  have C3_ : w4.cell? ⟨w.heap.size, 3, none⟩ = some (.int .u64 e) := C4.out.cell 3
  have C4_ : w4.cell? ⟨w.heap.size, 4, none⟩ = some (.slice A2 n' c2) := C4.out.cell 4
  have C5_ : w4.cell? ⟨w.heap.size, 5, none⟩ = some (.slice M2 m' d2) := C4.out.cell 5
  have Cl_ : w.heap.size < w4.heap.size := C4.out.lt
  have Cf_ := C4.out.frz
  have P0_ : w4.cell? ⟨w.heap.size + 1, 0, none⟩ = some (.int .u64 0) := P4.out.cell 0
  have P1_ : w4.cell? ⟨w.heap.size + 1, 1, none⟩ = some (.int .i64 0) := P4.out.cell 1
  have P2_ : w4.cell? ⟨w.heap.size + 1, 2, none⟩ = some (.bool false) := P4.out.cell 2
  have P3_ : w4.cell? ⟨w.heap.size + 1, 3, none⟩ = some (.int .u64 0) := P4.out.cell 3
  have P4_ : w4.cell? ⟨w.heap.size + 1, 4, none⟩ = some (.slice none 0 0) := P4.out.cell 4
  have P5_ : w4.cell? ⟨w.heap.size + 1, 5, none⟩ = some (.slice none 0 0) := P4.out.cell 5
  have Pl_ : w.heap.size + 1 < w4.heap.size := P4.out.lt
  have Pf_ := P4.out.frz
  have Q0_ : w4.cell? ⟨w.heap.size + 1 + 1, 0, none⟩ = some (.bool false) := Q4.out.cell 0
  have Q1_ : w4.cell? ⟨w.heap.size + 1 + 1, 1, none⟩ = some (.bool false) := Q4.out.cell 1
  have Q2_ : w4.cell? ⟨w.heap.size + 1 + 1, 2, none⟩ = some (.int .u64 0) := Q4.out.cell 2
  have Q3_ : w4.cell? ⟨w.heap.size + 1 + 1, 3, none⟩ = some (.slice none 0 0) := Q4.out.cell 3
  have Q4_ : w4.cell? ⟨w.heap.size + 1 + 1, 4, none⟩ = some (.slice none 0 0) := Q4.out.cell 4
  have Ql_ : w.heap.size + 1 + 1 < w4.heap.size := Q4.out.lt
  have Qf_ := Q4.out.frz
  have S0_ : w4.cell? ⟨w.heap.size + 1 + 1 + 1, 0, none⟩ = some (.bool false) := S4.out.cell 0
  have S1_ : w4.cell? ⟨w.heap.size + 1 + 1 + 1, 1, none⟩ = some (.bool false) := S4.out.cell 1
  have S2_ : w4.cell? ⟨w.heap.size + 1 + 1 + 1, 2, none⟩ = some (.int .u64 0) := S4.out.cell 2
  have S3_ : w4.cell? ⟨w.heap.size + 1 + 1 + 1, 3, none⟩ = some (.slice none 0 0) := S4.out.cell 3
  have S4_ : w4.cell? ⟨w.heap.size + 1 + 1 + 1, 4, none⟩ = some (.slice none 0 0) := S4.out.cell 4
  have Sl_ : w.heap.size + 1 + 1 + 1 < w4.heap.size := S4.out.lt
  have Sf_ := S4.out.frz
  have nCP := cell_far (show w.heap.size ≠ w.heap.size + 1 by omega)
  have nCQ := cell_far (show w.heap.size ≠ w.heap.size + 1 + 1 by omega)
  have nSP := cell_far (show w.heap.size + 1 + 1 + 1 ≠ w.heap.size + 1 by omega)
  have nSQ := cell_far (show w.heap.size + 1 + 1 + 1 ≠ w.heap.size + 1 + 1 by omega)
  go_region_held3 (fun w' => w'.cell? ⟨w.heap.size, 0, none⟩ = some (.int .u64 win) ∧ w'.cell? ⟨w.heap.size, 1, none⟩ = some (.int .i64 most) ∧ w'.cell? ⟨w.heap.size, 2, none⟩ = some (.bool true) ∧ w'.cell? ⟨w.heap.size, 3, none⟩ = some (.int .u64 e) ∧ w'.cell? ⟨w.heap.size, 4, none⟩ = some (.slice A2 n' c2) ∧ w'.cell? ⟨w.heap.size, 5, none⟩ = some (.slice M2 m' d2) ∧ w'.cell? ⟨w.heap.size + 1 + 1 + 1, 0, none⟩ = some (.bool false) ∧ w'.cell? ⟨w.heap.size + 1 + 1 + 1, 1, none⟩ = some (.bool false) ∧ w'.cell? ⟨w.heap.size + 1 + 1 + 1, 2, none⟩ = some (.int .u64 0) ∧ w'.cell? ⟨w.heap.size + 1 + 1 + 1, 3, none⟩ = some (.slice none 0 0) ∧ w'.cell? ⟨w.heap.size + 1 + 1 + 1, 4, none⟩ = some (.slice none 0 0)) (first | go_keep | (simp only [nCP, nCQ, nSP, nSQ, cell_drew]; exact ⟨C0_, C1_, C2_, C3_, C4_, C5_, S0_, S1_, S2_, S3_, S4_⟩)) (fail)
  clear nCP nCQ nSP nSQ
  clear C0_ C1_ C2_ C3_ C4_ C5_ Cl_ Cf_ P0_ P1_ P2_ P3_ P4_ P5_ Pl_ Pf_ Q0_ Q1_ Q2_ Q3_ Q4_ Ql_ Qf_ S0_ S1_ S2_ S3_ S4_ Sl_ Sf_
  have PF : Hid (Blk (((((((((((w4.setCell ⟨w.heap.size + 1, 0, none⟩ (.int .u64 win)).setCell ⟨w.heap.size + 1, 1, none⟩ (.int .i64 most)).setCell ⟨w.heap.size + 1, 2, none⟩ (.bool true)).setCell ⟨w.heap.size + 1, 3, none⟩ (.int .u64 e)).setCell ⟨w.heap.size + 1, 4, none⟩ (.slice A2 n' c2)).setCell ⟨w.heap.size + 1, 5, none⟩ (.slice M2 m' d2)).setCell ⟨w.heap.size + 1 + 1, 0, none⟩ (.bool false)).setCell ⟨w.heap.size + 1 + 1, 1, none⟩ (.bool false)).setCell ⟨w.heap.size + 1 + 1, 2, none⟩ (.int .u64 0)).setCell ⟨w.heap.size + 1 + 1, 3, none⟩ (.slice none 0 0)).setCell ⟨w.heap.size + 1 + 1, 4, none⟩ (.slice none 0 0)).drew (w.heap.size + 1) 32 #[.int .u64 win, .int .i64 most, .bool true, .int .u64 e, .slice A2 n' c2, .slice M2 m' d2]) := Lib.hid ((((((((((((P4.out.set 0 (.int .u64 win)).set 1 (.int .i64 most)).set 2 (.bool true)).set 3 (.int .u64 e)).set 4 (.slice A2 n' c2)).set 5 (.slice M2 m' d2)).far (p := ⟨w.heap.size + 1 + 1, 0, none⟩) (show w.heap.size + 1 ≠ w.heap.size + 1 + 1 by omega) (.bool false)).far (p := ⟨w.heap.size + 1 + 1, 1, none⟩) (show w.heap.size + 1 ≠ w.heap.size + 1 + 1 by omega) (.bool false)).far (p := ⟨w.heap.size + 1 + 1, 2, none⟩) (show w.heap.size + 1 ≠ w.heap.size + 1 + 1 by omega) (.int .u64 0)).far (p := ⟨w.heap.size + 1 + 1, 3, none⟩) (show w.heap.size + 1 ≠ w.heap.size + 1 + 1 by omega) (.slice none 0 0)).far (p := ⟨w.heap.size + 1 + 1, 4, none⟩) (show w.heap.size + 1 ≠ w.heap.size + 1 + 1 by omega) (.slice none 0 0)).drew)
  have QF : Hid (Blk (((((((((((w4.setCell ⟨w.heap.size + 1, 0, none⟩ (.int .u64 win)).setCell ⟨w.heap.size + 1, 1, none⟩ (.int .i64 most)).setCell ⟨w.heap.size + 1, 2, none⟩ (.bool true)).setCell ⟨w.heap.size + 1, 3, none⟩ (.int .u64 e)).setCell ⟨w.heap.size + 1, 4, none⟩ (.slice A2 n' c2)).setCell ⟨w.heap.size + 1, 5, none⟩ (.slice M2 m' d2)).setCell ⟨w.heap.size + 1 + 1, 0, none⟩ (.bool false)).setCell ⟨w.heap.size + 1 + 1, 1, none⟩ (.bool false)).setCell ⟨w.heap.size + 1 + 1, 2, none⟩ (.int .u64 0)).setCell ⟨w.heap.size + 1 + 1, 3, none⟩ (.slice none 0 0)).setCell ⟨w.heap.size + 1 + 1, 4, none⟩ (.slice none 0 0)).drew (w.heap.size + 1 + 1) 45 #[.bool false, .bool false, .int .u64 0, .slice none 0 0, .slice none 0 0]) := Lib.hid ((((((((((((Q4.out.far (p := ⟨w.heap.size + 1, 0, none⟩) (show w.heap.size + 1 + 1 ≠ w.heap.size + 1 by omega) (.int .u64 win)).far (p := ⟨w.heap.size + 1, 1, none⟩) (show w.heap.size + 1 + 1 ≠ w.heap.size + 1 by omega) (.int .i64 most)).far (p := ⟨w.heap.size + 1, 2, none⟩) (show w.heap.size + 1 + 1 ≠ w.heap.size + 1 by omega) (.bool true)).far (p := ⟨w.heap.size + 1, 3, none⟩) (show w.heap.size + 1 + 1 ≠ w.heap.size + 1 by omega) (.int .u64 e)).far (p := ⟨w.heap.size + 1, 4, none⟩) (show w.heap.size + 1 + 1 ≠ w.heap.size + 1 by omega) (.slice A2 n' c2)).far (p := ⟨w.heap.size + 1, 5, none⟩) (show w.heap.size + 1 + 1 ≠ w.heap.size + 1 by omega) (.slice M2 m' d2)).set 0 (.bool false)).set 1 (.bool false)).set 2 (.int .u64 0)).set 3 (.slice none 0 0)).set 4 (.slice none 0 0)).drew)
  have UF : Hid (Upd (fun _ => False) w (((((((((((w4.setCell ⟨w.heap.size + 1, 0, none⟩ (.int .u64 win)).setCell ⟨w.heap.size + 1, 1, none⟩ (.int .i64 most)).setCell ⟨w.heap.size + 1, 2, none⟩ (.bool true)).setCell ⟨w.heap.size + 1, 3, none⟩ (.int .u64 e)).setCell ⟨w.heap.size + 1, 4, none⟩ (.slice A2 n' c2)).setCell ⟨w.heap.size + 1, 5, none⟩ (.slice M2 m' d2)).setCell ⟨w.heap.size + 1 + 1, 0, none⟩ (.bool false)).setCell ⟨w.heap.size + 1 + 1, 1, none⟩ (.bool false)).setCell ⟨w.heap.size + 1 + 1, 2, none⟩ (.int .u64 0)).setCell ⟨w.heap.size + 1 + 1, 3, none⟩ (.slice none 0 0)).setCell ⟨w.heap.size + 1 + 1, 4, none⟩ (.slice none 0 0)).drew) := Lib.hid ((((((((((((U4.out.set (p := ⟨w.heap.size + 1, 0, none⟩) (.inr (show w.heap.size ≤ w.heap.size + 1 by omega)) (.int .u64 win)).set (p := ⟨w.heap.size + 1, 1, none⟩) (.inr (show w.heap.size ≤ w.heap.size + 1 by omega)) (.int .i64 most)).set (p := ⟨w.heap.size + 1, 2, none⟩) (.inr (show w.heap.size ≤ w.heap.size + 1 by omega)) (.bool true)).set (p := ⟨w.heap.size + 1, 3, none⟩) (.inr (show w.heap.size ≤ w.heap.size + 1 by omega)) (.int .u64 e)).set (p := ⟨w.heap.size + 1, 4, none⟩) (.inr (show w.heap.size ≤ w.heap.size + 1 by omega)) (.slice A2 n' c2)).set (p := ⟨w.heap.size + 1, 5, none⟩) (.inr (show w.heap.size ≤ w.heap.size + 1 by omega)) (.slice M2 m' d2)).set (p := ⟨w.heap.size + 1 + 1, 0, none⟩) (.inr (show w.heap.size ≤ w.heap.size + 1 + 1 by omega)) (.bool false)).set (p := ⟨w.heap.size + 1 + 1, 1, none⟩) (.inr (show w.heap.size ≤ w.heap.size + 1 + 1 by omega)) (.bool false)).set (p := ⟨w.heap.size + 1 + 1, 2, none⟩) (.inr (show w.heap.size ≤ w.heap.size + 1 + 1 by omega)) (.int .u64 0)).set (p := ⟨w.heap.size + 1 + 1, 3, none⟩) (.inr (show w.heap.size ≤ w.heap.size + 1 + 1 by omega)) (.slice none 0 0)).set (p := ⟨w.heap.size + 1 + 1, 4, none⟩) (.inr (show w.heap.size ≤ w.heap.size + 1 + 1 by omega)) (.slice none 0 0)).drew)
  have AF : Hid (Sl (((((((((((w4.setCell ⟨w.heap.size + 1, 0, none⟩ (.int .u64 win)).setCell ⟨w.heap.size + 1, 1, none⟩ (.int .i64 most)).setCell ⟨w.heap.size + 1, 2, none⟩ (.bool true)).setCell ⟨w.heap.size + 1, 3, none⟩ (.int .u64 e)).setCell ⟨w.heap.size + 1, 4, none⟩ (.slice A2 n' c2)).setCell ⟨w.heap.size + 1, 5, none⟩ (.slice M2 m' d2)).setCell ⟨w.heap.size + 1 + 1, 0, none⟩ (.bool false)).setCell ⟨w.heap.size + 1 + 1, 1, none⟩ (.bool false)).setCell ⟨w.heap.size + 1 + 1, 2, none⟩ (.int .u64 0)).setCell ⟨w.heap.size + 1 + 1, 3, none⟩ (.slice none 0 0)).setCell ⟨w.heap.size + 1 + 1, 4, none⟩ (.slice none 0 0)).drew A2 n' c2 (nums xs')) := Lib.hid (KA4.out.keep (((((((((((((Upd.refl (KF w 4) w4).set (p := ⟨w.heap.size + 1, 0, none⟩) (.inl (show KF w 4 (w.heap.size + 1) from ⟨by omega, by omega⟩)) (.int .u64 win)).set (p := ⟨w.heap.size + 1, 1, none⟩) (.inl (show KF w 4 (w.heap.size + 1) from ⟨by omega, by omega⟩)) (.int .i64 most)).set (p := ⟨w.heap.size + 1, 2, none⟩) (.inl (show KF w 4 (w.heap.size + 1) from ⟨by omega, by omega⟩)) (.bool true)).set (p := ⟨w.heap.size + 1, 3, none⟩) (.inl (show KF w 4 (w.heap.size + 1) from ⟨by omega, by omega⟩)) (.int .u64 e)).set (p := ⟨w.heap.size + 1, 4, none⟩) (.inl (show KF w 4 (w.heap.size + 1) from ⟨by omega, by omega⟩)) (.slice A2 n' c2)).set (p := ⟨w.heap.size + 1, 5, none⟩) (.inl (show KF w 4 (w.heap.size + 1) from ⟨by omega, by omega⟩)) (.slice M2 m' d2)).set (p := ⟨w.heap.size + 1 + 1, 0, none⟩) (.inl (show KF w 4 (w.heap.size + 1 + 1) from ⟨by omega, by omega⟩)) (.bool false)).set (p := ⟨w.heap.size + 1 + 1, 1, none⟩) (.inl (show KF w 4 (w.heap.size + 1 + 1) from ⟨by omega, by omega⟩)) (.bool false)).set (p := ⟨w.heap.size + 1 + 1, 2, none⟩) (.inl (show KF w 4 (w.heap.size + 1 + 1) from ⟨by omega, by omega⟩)) (.int .u64 0)).set (p := ⟨w.heap.size + 1 + 1, 3, none⟩) (.inl (show KF w 4 (w.heap.size + 1 + 1) from ⟨by omega, by omega⟩)) (.slice none 0 0)).set (p := ⟨w.heap.size + 1 + 1, 4, none⟩) (.inl (show KF w 4 (w.heap.size + 1 + 1) from ⟨by omega, by omega⟩)) (.slice none 0 0)).drew) (fun _ h => h)).sl
  have MF : Hid (Sl (((((((((((w4.setCell ⟨w.heap.size + 1, 0, none⟩ (.int .u64 win)).setCell ⟨w.heap.size + 1, 1, none⟩ (.int .i64 most)).setCell ⟨w.heap.size + 1, 2, none⟩ (.bool true)).setCell ⟨w.heap.size + 1, 3, none⟩ (.int .u64 e)).setCell ⟨w.heap.size + 1, 4, none⟩ (.slice A2 n' c2)).setCell ⟨w.heap.size + 1, 5, none⟩ (.slice M2 m' d2)).setCell ⟨w.heap.size + 1 + 1, 0, none⟩ (.bool false)).setCell ⟨w.heap.size + 1 + 1, 1, none⟩ (.bool false)).setCell ⟨w.heap.size + 1 + 1, 2, none⟩ (.int .u64 0)).setCell ⟨w.heap.size + 1 + 1, 3, none⟩ (.slice none 0 0)).setCell ⟨w.heap.size + 1 + 1, 4, none⟩ (.slice none 0 0)).drew M2 m' d2 (prs ms')) := Lib.hid (KM4.out.keep (((((((((((((Upd.refl (KF w 4) w4).set (p := ⟨w.heap.size + 1, 0, none⟩) (.inl (show KF w 4 (w.heap.size + 1) from ⟨by omega, by omega⟩)) (.int .u64 win)).set (p := ⟨w.heap.size + 1, 1, none⟩) (.inl (show KF w 4 (w.heap.size + 1) from ⟨by omega, by omega⟩)) (.int .i64 most)).set (p := ⟨w.heap.size + 1, 2, none⟩) (.inl (show KF w 4 (w.heap.size + 1) from ⟨by omega, by omega⟩)) (.bool true)).set (p := ⟨w.heap.size + 1, 3, none⟩) (.inl (show KF w 4 (w.heap.size + 1) from ⟨by omega, by omega⟩)) (.int .u64 e)).set (p := ⟨w.heap.size + 1, 4, none⟩) (.inl (show KF w 4 (w.heap.size + 1) from ⟨by omega, by omega⟩)) (.slice A2 n' c2)).set (p := ⟨w.heap.size + 1, 5, none⟩) (.inl (show KF w 4 (w.heap.size + 1) from ⟨by omega, by omega⟩)) (.slice M2 m' d2)).set (p := ⟨w.heap.size + 1 + 1, 0, none⟩) (.inl (show KF w 4 (w.heap.size + 1 + 1) from ⟨by omega, by omega⟩)) (.bool false)).set (p := ⟨w.heap.size + 1 + 1, 1, none⟩) (.inl (show KF w 4 (w.heap.size + 1 + 1) from ⟨by omega, by omega⟩)) (.bool false)).set (p := ⟨w.heap.size + 1 + 1, 2, none⟩) (.inl (show KF w 4 (w.heap.size + 1 + 1) from ⟨by omega, by omega⟩)) (.int .u64 0)).set (p := ⟨w.heap.size + 1 + 1, 3, none⟩) (.inl (show KF w 4 (w.heap.size + 1 + 1) from ⟨by omega, by omega⟩)) (.slice none 0 0)).set (p := ⟨w.heap.size + 1 + 1, 4, none⟩) (.inl (show KF w 4 (w.heap.size + 1 + 1) from ⟨by omega, by omega⟩)) (.slice none 0 0)).drew) (fun _ h => h)).sl
  generalize (((((((((((w4.setCell ⟨w.heap.size + 1, 0, none⟩ (.int .u64 win)).setCell ⟨w.heap.size + 1, 1, none⟩ (.int .i64 most)).setCell ⟨w.heap.size + 1, 2, none⟩ (.bool true)).setCell ⟨w.heap.size + 1, 3, none⟩ (.int .u64 e)).setCell ⟨w.heap.size + 1, 4, none⟩ (.slice A2 n' c2)).setCell ⟨w.heap.size + 1, 5, none⟩ (.slice M2 m' d2)).setCell ⟨w.heap.size + 1 + 1, 0, none⟩ (.bool false)).setCell ⟨w.heap.size + 1 + 1, 1, none⟩ (.bool false)).setCell ⟨w.heap.size + 1 + 1, 2, none⟩ (.int .u64 0)).setCell ⟨w.heap.size + 1 + 1, 3, none⟩ (.slice none 0 0)).setCell ⟨w.heap.size + 1 + 1, 4, none⟩ (.slice none 0 0)).drew = w5 at *
  have p0 : w5.cell? ⟨w.heap.size + 1, 0, none⟩ = some (.int .u64 win) := PF.out.cell 0
  have p1 : w5.cell? ⟨w.heap.size + 1, 1, none⟩ = some (.int .i64 most) := PF.out.cell 1
  have p2 : w5.cell? ⟨w.heap.size + 1, 2, none⟩ = some (.bool true) := PF.out.cell 2
  have p3 : w5.cell? ⟨w.heap.size + 1, 3, none⟩ = some (.int .u64 e) := PF.out.cell 3
  have p4 : w5.cell? ⟨w.heap.size + 1, 4, none⟩ = some (.slice A2 n' c2) := PF.out.cell 4
  have p5 : w5.cell? ⟨w.heap.size + 1, 5, none⟩ = some (.slice M2 m' d2) := PF.out.cell 5
  have q0 : w5.cell? ⟨w.heap.size + 1 + 1, 0, none⟩ = some (.bool false) := QF.out.cell 0
  have q1 : w5.cell? ⟨w.heap.size + 1 + 1, 1, none⟩ = some (.bool false) := QF.out.cell 1
  have q2 : w5.cell? ⟨w.heap.size + 1 + 1, 2, none⟩ = some (.int .u64 0) := QF.out.cell 2
  have q3 : w5.cell? ⟨w.heap.size + 1 + 1, 3, none⟩ = some (.slice none 0 0) := QF.out.cell 3
  have q4 : w5.cell? ⟨w.heap.size + 1 + 1, 4, none⟩ = some (.slice none 0 0) := QF.out.cell 4
  have lP := PF.out.lt
  have lQ := QF.out.lt
  go_wp2
  refine bodyPost_ret (v := .tuple #[.agg #[.int .u64 win, .int .i64 most, .bool true, .int .u64 e, .slice A2 n' c2, .slice M2 m' d2], .agg #[.bool false, .bool false, .int .u64 0, .slice none 0 0, .slice none 0 0]]) (by simp [results, Try.results14, go_sem, p0, p1, p2, p3, p4, p5, q0, q1, q2, q3, q4, lP, lQ]) rfl ⟨A2, c2, M2, d2, rfl, AF.out, MF.out, NW.out, UF.out.below0⟩
instance {win most : Int} : Decidable (cok win most) := by unfold cok; infer_instance
set_option maxHeartbeats 1000000 in
theorem rexp_none {win most now e : Int} {A M : Option Addr} {n c m d : Nat} (w : World) :
    Calls Try.prog 18 #[.agg #[.int .u64 win, .int .i64 most, .bool false, .int .u64 e, .slice A n c, .slice M m d], .int .u64 now] w fun e_ w' => e_ = .returned (.tuple #[.agg #[.int .u64 win, .int .i64 most, .bool false, .int .u64 e, .slice A n c, .slice M m d], .agg #[.slice none 0 0, .slice none 0 0], .bool false]) ∧ Below w.heap.size w w' := by
  go_enter Try.func18, Try.ntmps18
  go_wp2
  refine bodyPost_ret (v := .tuple #[.agg #[.int .u64 win, .int .i64 most, .bool false, .int .u64 e, .slice A n c, .slice M m d], .agg #[.slice none 0 0, .slice none 0 0], .bool false]) (by simp [results, Try.results18, go_sem]) rfl ⟨rfl, ?_⟩
  refine Upd.below0 ?_
  repeat (first | exact Upd.refl _ _ | refine Upd.alloc ?_ _ | refine Upd.drew ?_ | refine Upd.drewN ?_ _ | refine Upd.set ?_ (.inr (by simp)) _)
set_option maxHeartbeats 1000000 in
theorem rexp_early {win most now e : Int} {A M : Option Addr} {n c m d : Nat} (hlt : now < e) (w : World) :
    Calls Try.prog 18 #[.agg #[.int .u64 win, .int .i64 most, .bool true, .int .u64 e, .slice A n c, .slice M m d], .int .u64 now] w fun e_ w' => e_ = .returned (.tuple #[.agg #[.int .u64 win, .int .i64 most, .bool true, .int .u64 e, .slice A n c, .slice M m d], .agg #[.slice none 0 0, .slice none 0 0], .bool false]) ∧ Below w.heap.size w w' := by
  go_enter Try.func18, Try.ntmps18
  go_wp2
  refine bodyPost_ret (v := .tuple #[.agg #[.int .u64 win, .int .i64 most, .bool true, .int .u64 e, .slice A n c, .slice M m d], .agg #[.slice none 0 0, .slice none 0 0], .bool false]) (by simp [results, Try.results18, go_sem]) rfl ⟨rfl, ?_⟩
  refine Upd.below0 ?_
  repeat (first | exact Upd.refl _ _ | refine Upd.alloc ?_ _ | refine Upd.drew ?_ | refine Upd.drewN ?_ _ | refine Upd.set ?_ (.inr (by simp)) _)
set_option maxRecDepth 100000 in
set_option maxHeartbeats 4000000 in
theorem rexp_over {win most now e : Int} {A M : Option Addr} {n c m d : Nat} (hlt : ¬ now < e) (w : World) :
    Calls Try.prog 18 #[.agg #[.int .u64 win, .int .i64 most, .bool true, .int .u64 e, .slice A n c, .slice M m d], .int .u64 now] w fun e_ w' => e_ = .returned (.tuple #[.agg #[.int .u64 win, .int .i64 most, .bool false, .int .u64 e, .slice none 0 0, .slice none 0 0], .agg #[.slice A n c, .slice M m d], .bool true]) ∧ Below w.heap.size w w' := by
  go_enter Try.func18, Try.ntmps18
  go_wp2_with fail
  refine Code.gen (fun W => Blk W w.heap.size 32 #[.int .u64 win, .int .i64 most, .bool false, .int .u64 e, .slice none 0 0, .slice none 0 0] ∧ Blk W (w.heap.size + 1) 32 #[.int .u64 0, .int .i64 0, .bool false, .int .u64 0, .slice none 0 0, .slice none 0 0] ∧ Blk W (w.heap.size + 1 + 1) 30 #[.slice none 0 0, .slice none 0 0] ∧ Blk W (w.heap.size + 1 + 1 + 1) 30 #[.slice A n c, .slice M m d] ∧ Upd (fun _ => False) w W) ⟨(((Blk.new w #[.int .u64 win, .int .i64 most, .bool false, .int .u64 e, .slice none 0 0, .slice none 0 0] 32).alloc (.cells #[.int .u64 0, .int .i64 0, .bool false, .int .u64 0, .slice none 0 0, .slice none 0 0] 32)).alloc (.cells #[.slice none 0 0, .slice none 0 0] 30)).alloc (.cells #[.slice A n c, .slice M m d] 30), ((Blk.new1 w (.cells #[.int .u64 win, .int .i64 most, .bool false, .int .u64 e, .slice none 0 0, .slice none 0 0] 32) #[.int .u64 0, .int .i64 0, .bool false, .int .u64 0, .slice none 0 0, .slice none 0 0] 32).alloc (.cells #[.slice none 0 0, .slice none 0 0] 30)).alloc (.cells #[.slice A n c, .slice M m d] 30), (Blk.new2 w (.cells #[.int .u64 win, .int .i64 most, .bool false, .int .u64 e, .slice none 0 0, .slice none 0 0] 32) (.cells #[.int .u64 0, .int .i64 0, .bool false, .int .u64 0, .slice none 0 0, .slice none 0 0] 32) #[.slice none 0 0, .slice none 0 0] 30).alloc (.cells #[.slice A n c, .slice M m d] 30), Blk.new3 w (.cells #[.int .u64 win, .int .i64 most, .bool false, .int .u64 e, .slice none 0 0, .slice none 0 0] 32) (.cells #[.int .u64 0, .int .i64 0, .bool false, .int .u64 0, .slice none 0 0, .slice none 0 0] 32) (.cells #[.slice none 0 0, .slice none 0 0] 30) #[.slice A n c, .slice M m d] 30, ((((Upd.refl (fun _ => False) w).alloc (.cells #[.int .u64 win, .int .i64 most, .bool false, .int .u64 e, .slice none 0 0, .slice none 0 0] 32)).alloc (.cells #[.int .u64 0, .int .i64 0, .bool false, .int .u64 0, .slice none 0 0, .slice none 0 0] 32)).alloc (.cells #[.slice none 0 0, .slice none 0 0] 30)).alloc (.cells #[.slice A n c, .slice M m d] 30)⟩ ?_
  rintro w4 ⟨qC, qP, qQ, qS, qU⟩
  have C4 := Lib.hid qC
  have P4 := Lib.hid qP
  have Q4 := Lib.hid qQ
  have S4 := Lib.hid qS
  have U4 := Lib.hid qU
  clear qC qP qQ qS qU
  have C0_ : w4.cell? ⟨w.heap.size, 0, none⟩ = some (.int .u64 win) := C4.out.cell 0
  have C1_ : w4.cell? ⟨w.heap.size, 1, none⟩ = some (.int .i64 most) := C4.out.cell 1
  have C2_ : w4.cell? ⟨w.heap.size, 2, none⟩ = some (.bool false) := C4.out.cell 2
  have C3_ : w4.cell? ⟨w.heap.size, 3, none⟩ = some (.int .u64 e) := C4.out.cell 3
  have C4_ : w4.cell? ⟨w.heap.size, 4, none⟩ = some (.slice none 0 0) := C4.out.cell 4
  have C5_ : w4.cell? ⟨w.heap.size, 5, none⟩ = some (.slice none 0 0) := C4.out.cell 5
  have Cl_ : w.heap.size < w4.heap.size := C4.out.lt
  have Cf_ := C4.out.frz
  have P0_ : w4.cell? ⟨w.heap.size + 1, 0, none⟩ = some (.int .u64 0) := P4.out.cell 0
  have P1_ : w4.cell? ⟨w.heap.size + 1, 1, none⟩ = some (.int .i64 0) := P4.out.cell 1
  have P2_ : w4.cell? ⟨w.heap.size + 1, 2, none⟩ = some (.bool false) := P4.out.cell 2
  have P3_ : w4.cell? ⟨w.heap.size + 1, 3, none⟩ = some (.int .u64 0) := P4.out.cell 3
  have P4_ : w4.cell? ⟨w.heap.size + 1, 4, none⟩ = some (.slice none 0 0) := P4.out.cell 4
  have P5_ : w4.cell? ⟨w.heap.size + 1, 5, none⟩ = some (.slice none 0 0) := P4.out.cell 5
  have Pl_ : w.heap.size + 1 < w4.heap.size := P4.out.lt
  have Pf_ := P4.out.frz
  have Q0_ : w4.cell? ⟨w.heap.size + 1 + 1, 0, none⟩ = some (.slice none 0 0) := Q4.out.cell 0
  have Q1_ : w4.cell? ⟨w.heap.size + 1 + 1, 1, none⟩ = some (.slice none 0 0) := Q4.out.cell 1
  have Ql_ : w.heap.size + 1 + 1 < w4.heap.size := Q4.out.lt
  have Qf_ := Q4.out.frz
  have S0_ : w4.cell? ⟨w.heap.size + 1 + 1 + 1, 0, none⟩ = some (.slice A n c) := S4.out.cell 0
  have S1_ : w4.cell? ⟨w.heap.size + 1 + 1 + 1, 1, none⟩ = some (.slice M m d) := S4.out.cell 1
  have Sl_ : w.heap.size + 1 + 1 + 1 < w4.heap.size := S4.out.lt
  have Sf_ := S4.out.frz
  have nCP := cell_far (show w.heap.size ≠ w.heap.size + 1 by omega)
  have nCQ := cell_far (show w.heap.size ≠ w.heap.size + 1 + 1 by omega)
  have nSP := cell_far (show w.heap.size + 1 + 1 + 1 ≠ w.heap.size + 1 by omega)
  have nSQ := cell_far (show w.heap.size + 1 + 1 + 1 ≠ w.heap.size + 1 + 1 by omega)
  go_region_held3 (fun w' => w'.cell? ⟨w.heap.size, 0, none⟩ = some (.int .u64 win) ∧ w'.cell? ⟨w.heap.size, 1, none⟩ = some (.int .i64 most) ∧ w'.cell? ⟨w.heap.size, 2, none⟩ = some (.bool false) ∧ w'.cell? ⟨w.heap.size, 3, none⟩ = some (.int .u64 e) ∧ w'.cell? ⟨w.heap.size, 4, none⟩ = some (.slice none 0 0) ∧ w'.cell? ⟨w.heap.size, 5, none⟩ = some (.slice none 0 0) ∧ w'.cell? ⟨w.heap.size + 1 + 1 + 1, 0, none⟩ = some (.slice A n c) ∧ w'.cell? ⟨w.heap.size + 1 + 1 + 1, 1, none⟩ = some (.slice M m d)) (first | go_keep | (simp only [nCP, nCQ, nSP, nSQ, cell_drew]; exact ⟨C0_, C1_, C2_, C3_, C4_, C5_, S0_, S1_⟩)) (fail)
  clear nCP nCQ nSP nSQ
  clear C0_ C1_ C2_ C3_ C4_ C5_ Cl_ Cf_ P0_ P1_ P2_ P3_ P4_ P5_ Pl_ Pf_ Q0_ Q1_ Ql_ Qf_ S0_ S1_ Sl_ Sf_
  have PF : Hid (Blk ((((((((w4.setCell ⟨w.heap.size + 1, 0, none⟩ (.int .u64 win)).setCell ⟨w.heap.size + 1, 1, none⟩ (.int .i64 most)).setCell ⟨w.heap.size + 1, 2, none⟩ (.bool false)).setCell ⟨w.heap.size + 1, 3, none⟩ (.int .u64 e)).setCell ⟨w.heap.size + 1, 4, none⟩ (.slice none 0 0)).setCell ⟨w.heap.size + 1, 5, none⟩ (.slice none 0 0)).setCell ⟨w.heap.size + 1 + 1, 0, none⟩ (.slice A n c)).setCell ⟨w.heap.size + 1 + 1, 1, none⟩ (.slice M m d)).drew (w.heap.size + 1) 32 #[.int .u64 win, .int .i64 most, .bool false, .int .u64 e, .slice none 0 0, .slice none 0 0]) := Lib.hid (((((((((P4.out.set 0 (.int .u64 win)).set 1 (.int .i64 most)).set 2 (.bool false)).set 3 (.int .u64 e)).set 4 (.slice none 0 0)).set 5 (.slice none 0 0)).far (p := ⟨w.heap.size + 1 + 1, 0, none⟩) (show w.heap.size + 1 ≠ w.heap.size + 1 + 1 by omega) (.slice A n c)).far (p := ⟨w.heap.size + 1 + 1, 1, none⟩) (show w.heap.size + 1 ≠ w.heap.size + 1 + 1 by omega) (.slice M m d)).drew)
  have QF : Hid (Blk ((((((((w4.setCell ⟨w.heap.size + 1, 0, none⟩ (.int .u64 win)).setCell ⟨w.heap.size + 1, 1, none⟩ (.int .i64 most)).setCell ⟨w.heap.size + 1, 2, none⟩ (.bool false)).setCell ⟨w.heap.size + 1, 3, none⟩ (.int .u64 e)).setCell ⟨w.heap.size + 1, 4, none⟩ (.slice none 0 0)).setCell ⟨w.heap.size + 1, 5, none⟩ (.slice none 0 0)).setCell ⟨w.heap.size + 1 + 1, 0, none⟩ (.slice A n c)).setCell ⟨w.heap.size + 1 + 1, 1, none⟩ (.slice M m d)).drew (w.heap.size + 1 + 1) 30 #[.slice A n c, .slice M m d]) := Lib.hid (((((((((Q4.out.far (p := ⟨w.heap.size + 1, 0, none⟩) (show w.heap.size + 1 + 1 ≠ w.heap.size + 1 by omega) (.int .u64 win)).far (p := ⟨w.heap.size + 1, 1, none⟩) (show w.heap.size + 1 + 1 ≠ w.heap.size + 1 by omega) (.int .i64 most)).far (p := ⟨w.heap.size + 1, 2, none⟩) (show w.heap.size + 1 + 1 ≠ w.heap.size + 1 by omega) (.bool false)).far (p := ⟨w.heap.size + 1, 3, none⟩) (show w.heap.size + 1 + 1 ≠ w.heap.size + 1 by omega) (.int .u64 e)).far (p := ⟨w.heap.size + 1, 4, none⟩) (show w.heap.size + 1 + 1 ≠ w.heap.size + 1 by omega) (.slice none 0 0)).far (p := ⟨w.heap.size + 1, 5, none⟩) (show w.heap.size + 1 + 1 ≠ w.heap.size + 1 by omega) (.slice none 0 0)).set 0 (.slice A n c)).set 1 (.slice M m d)).drew)
  have UF : Hid (Upd (fun _ => False) w ((((((((w4.setCell ⟨w.heap.size + 1, 0, none⟩ (.int .u64 win)).setCell ⟨w.heap.size + 1, 1, none⟩ (.int .i64 most)).setCell ⟨w.heap.size + 1, 2, none⟩ (.bool false)).setCell ⟨w.heap.size + 1, 3, none⟩ (.int .u64 e)).setCell ⟨w.heap.size + 1, 4, none⟩ (.slice none 0 0)).setCell ⟨w.heap.size + 1, 5, none⟩ (.slice none 0 0)).setCell ⟨w.heap.size + 1 + 1, 0, none⟩ (.slice A n c)).setCell ⟨w.heap.size + 1 + 1, 1, none⟩ (.slice M m d)).drew) := Lib.hid (((((((((U4.out.set (p := ⟨w.heap.size + 1, 0, none⟩) (.inr (show w.heap.size ≤ w.heap.size + 1 by omega)) (.int .u64 win)).set (p := ⟨w.heap.size + 1, 1, none⟩) (.inr (show w.heap.size ≤ w.heap.size + 1 by omega)) (.int .i64 most)).set (p := ⟨w.heap.size + 1, 2, none⟩) (.inr (show w.heap.size ≤ w.heap.size + 1 by omega)) (.bool false)).set (p := ⟨w.heap.size + 1, 3, none⟩) (.inr (show w.heap.size ≤ w.heap.size + 1 by omega)) (.int .u64 e)).set (p := ⟨w.heap.size + 1, 4, none⟩) (.inr (show w.heap.size ≤ w.heap.size + 1 by omega)) (.slice none 0 0)).set (p := ⟨w.heap.size + 1, 5, none⟩) (.inr (show w.heap.size ≤ w.heap.size + 1 by omega)) (.slice none 0 0)).set (p := ⟨w.heap.size + 1 + 1, 0, none⟩) (.inr (show w.heap.size ≤ w.heap.size + 1 + 1 by omega)) (.slice A n c)).set (p := ⟨w.heap.size + 1 + 1, 1, none⟩) (.inr (show w.heap.size ≤ w.heap.size + 1 + 1 by omega)) (.slice M m d)).drew)
  generalize ((((((((w4.setCell ⟨w.heap.size + 1, 0, none⟩ (.int .u64 win)).setCell ⟨w.heap.size + 1, 1, none⟩ (.int .i64 most)).setCell ⟨w.heap.size + 1, 2, none⟩ (.bool false)).setCell ⟨w.heap.size + 1, 3, none⟩ (.int .u64 e)).setCell ⟨w.heap.size + 1, 4, none⟩ (.slice none 0 0)).setCell ⟨w.heap.size + 1, 5, none⟩ (.slice none 0 0)).setCell ⟨w.heap.size + 1 + 1, 0, none⟩ (.slice A n c)).setCell ⟨w.heap.size + 1 + 1, 1, none⟩ (.slice M m d)).drew = w5 at *
  have p0 : w5.cell? ⟨w.heap.size + 1, 0, none⟩ = some (.int .u64 win) := PF.out.cell 0
  have p1 : w5.cell? ⟨w.heap.size + 1, 1, none⟩ = some (.int .i64 most) := PF.out.cell 1
  have p2 : w5.cell? ⟨w.heap.size + 1, 2, none⟩ = some (.bool false) := PF.out.cell 2
  have p3 : w5.cell? ⟨w.heap.size + 1, 3, none⟩ = some (.int .u64 e) := PF.out.cell 3
  have p4 : w5.cell? ⟨w.heap.size + 1, 4, none⟩ = some (.slice none 0 0) := PF.out.cell 4
  have p5 : w5.cell? ⟨w.heap.size + 1, 5, none⟩ = some (.slice none 0 0) := PF.out.cell 5
  have q0 : w5.cell? ⟨w.heap.size + 1 + 1, 0, none⟩ = some (.slice A n c) := QF.out.cell 0
  have q1 : w5.cell? ⟨w.heap.size + 1 + 1, 1, none⟩ = some (.slice M m d) := QF.out.cell 1
  have lP := PF.out.lt
  have lQ := QF.out.lt
  go_wp2
  refine bodyPost_ret (v := .tuple #[.agg #[.int .u64 win, .int .i64 most, .bool false, .int .u64 e, .slice none 0 0, .slice none 0 0], .agg #[.slice A n c, .slice M m d], .bool true]) (by simp [results, Try.results18, go_sem, p0, p1, p2, p3, p4, p5, q0, q1, lP, lQ]) rfl ⟨rfl, UF.out.below0⟩
theorem rnew_to {win most : Int} {b : Bool} (hb : decide (cok win most) = b) (w : World) :
    Calls Try.prog 11 #[.int .u64 win, .int .i64 most] w fun e w' => e = .returned (.tuple #[.agg #[.int .u64 win, .int .i64 most, .bool false, .int .u64 0, .slice none 0 0, .slice none 0 0], .bool b]) ∧ Below w.heap.size w w' := by
  by_cases h1 : 1 ≤ win
  · by_cases h2 : win ≤ 1099511627776
    · by_cases h3 : 1 ≤ most
      · by_cases h4 : most ≤ 4
        · have hx : decide (cok win most) = true := decide_eq_true ⟨h1, h2, h3, h4⟩
          rw [hx] at hb
          subst hb
          clear hx
          go_enter Try.func11, Try.ntmps11
          go_wp2
          refine bodyPost_ret (v := .tuple #[.agg #[.int .u64 win, .int .i64 most, .bool false, .int .u64 0, .slice none 0 0, .slice none 0 0], .bool true]) (by simp [results, Try.results11, go_sem]) rfl ⟨rfl, ?_⟩
          refine Upd.below0 ?_
          repeat (first | exact Upd.refl _ _ | refine Upd.alloc ?_ _ | refine Upd.drew ?_ | refine Upd.drewN ?_ _ | refine Upd.set ?_ (.inr (by simp)) _)
        · have hx : decide (cok win most) = false := decide_eq_false (fun h => h4 h.2.2.2)
          rw [hx] at hb
          subst hb
          clear hx
          go_enter Try.func11, Try.ntmps11
          go_wp2
          refine bodyPost_ret (v := .tuple #[.agg #[.int .u64 win, .int .i64 most, .bool false, .int .u64 0, .slice none 0 0, .slice none 0 0], .bool false]) (by simp [results, Try.results11, go_sem]) rfl ⟨rfl, ?_⟩
          refine Upd.below0 ?_
          repeat (first | exact Upd.refl _ _ | refine Upd.alloc ?_ _ | refine Upd.drew ?_ | refine Upd.drewN ?_ _ | refine Upd.set ?_ (.inr (by simp)) _)
      · have hx : decide (cok win most) = false := decide_eq_false (fun h => h3 h.2.2.1)
        rw [hx] at hb
        subst hb
        clear hx
        go_enter Try.func11, Try.ntmps11
        go_wp2
        refine bodyPost_ret (v := .tuple #[.agg #[.int .u64 win, .int .i64 most, .bool false, .int .u64 0, .slice none 0 0, .slice none 0 0], .bool false]) (by simp [results, Try.results11, go_sem]) rfl ⟨rfl, ?_⟩
        refine Upd.below0 ?_
        repeat (first | exact Upd.refl _ _ | refine Upd.alloc ?_ _ | refine Upd.drew ?_ | refine Upd.drewN ?_ _ | refine Upd.set ?_ (.inr (by simp)) _)
    · have hx : decide (cok win most) = false := decide_eq_false (fun h => h2 h.2.1)
      rw [hx] at hb
      subst hb
      clear hx
      go_enter Try.func11, Try.ntmps11
      go_wp2
      refine bodyPost_ret (v := .tuple #[.agg #[.int .u64 win, .int .i64 most, .bool false, .int .u64 0, .slice none 0 0, .slice none 0 0], .bool false]) (by simp [results, Try.results11, go_sem]) rfl ⟨rfl, ?_⟩
      refine Upd.below0 ?_
      repeat (first | exact Upd.refl _ _ | refine Upd.alloc ?_ _ | refine Upd.drew ?_ | refine Upd.drewN ?_ _ | refine Upd.set ?_ (.inr (by simp)) _)
  · have hx : decide (cok win most) = false := decide_eq_false (fun h => h1 h.1)
    rw [hx] at hb
    subst hb
    clear hx
    go_enter Try.func11, Try.ntmps11
    go_wp2
    refine bodyPost_ret (v := .tuple #[.agg #[.int .u64 win, .int .i64 most, .bool false, .int .u64 0, .slice none 0 0, .slice none 0 0], .bool false]) (by simp [results, Try.results11, go_sem]) rfl ⟨rfl, ?_⟩
    refine Upd.below0 ?_
    repeat (first | exact Upd.refl _ _ | refine Upd.alloc ?_ _ | refine Upd.drew ?_ | refine Upd.drewN ?_ _ | refine Upd.set ?_ (.inr (by simp)) _)
end Go.Proofs.Ytnpecnljibeddaa
