/- Batches turned from the document's form into the program's, and back. -/
import Derived.Test.YtdfnhbhcgkdplaaBa
import Derived.Test.YtdfnhbhcgkdplaaSp
import Derived.Test.YtdfnhbhcgkdplaaWLast
import Derived.Deep.AppendLies
namespace Go.Proofs.Ytdfnhbhcgkdplaa
open Go.RowKit Go.Proofs.YtdfnhbhcgkdplaaW.PrintLast
set_option linter.unusedVariables false
set_option linter.unusedSimpArgs false

set_option maxRecDepth 100000 in
set_option maxHeartbeats 4000000 in
theorem made_any (A M : Option Addr) (c d n : Nat) (ms : List (Int × Int)) (hml : ms.length ≤ 1000) (w : World) (hm : Sl w M ms.length d (prs ms)) :
    Calls Try.prog 12 #[.agg #[.slice A n c, .slice M ms.length d]] w fun e w' => ∃ M' d',
      e = .returned (.agg #[.slice A n c, .slice M' ms.length d']) ∧ Sl w' M' ms.length d' (prs ms) ∧ Below w.heap.size w w' := by
  have hle2 := hm.le
  have hcm2 := hm.cm
  unfold maxLen at hcm2
  have HM := Lib.hid hm
  obtain ⟨i0, hj, hz0, hz1, hz2⟩ := info_parts infoM
  clear hm
  go_enter Try.func12, Try.ntmps12
  go_wp2_with fail
  go_loopw [4] (fun i wr => ∃ (k : Nat) (A' : Option Addr) (cap : Nat), k ≤ ms.length ∧ i = .int .i64 k ∧ Hid (wr.ownsRow (w.heap.size + 1 + 1 + 1) 64 2 (.slice A' k cap) k (prs (ms.take k))) ∧ Hid (Blk wr (w.heap.size + 1 + 1) 31 #[.slice A n c, .slice A' k cap]) ∧ Hid (Blk wr (w.heap.size + 1) 31 #[.slice none 0 0, .slice none 0 0]) ∧ Hid (Blk wr w.heap.size 25 #[.slice A n c, .slice M ms.length d]) ∧ Hid (Upd (fun _ => False) w wr)) (fun i _ => ms.length - (intOf i).toNat)
  case atStart =>
    refine ⟨0, none, 0, Nat.zero_le _, rfl, Lib.hid ⟨by simp [prs], .inl ⟨rfl, rfl⟩⟩, Lib.hid (Blk.new2 w _ _ _ _), Lib.hid ((Blk.new1 w _ _ _).alloc _), Lib.hid (((Blk.new w _ _).alloc _).alloc _), Lib.hid (by repeat (first | exact Upd.refl _ _ | refine Upd.alloc ?_ _ | refine Upd.drew ?_ | refine Upd.drewN ?_ _ | refine Upd.put ?_ _ _))⟩
  case round =>
    obtain ⟨k, A', cap, hk, rfl, hown, hob, hzb, hbb, hu⟩ := hrel
    have cob := hob.out.cell
    have cbb := hbb.out.cell
    have fob := hob.out.frz
    have hlo := hob.out.lt
    by_cases hlt : k < ms.length
    · obtain ⟨m, hm⟩ : ∃ m, ms[k]? = some m := ⟨ms[k]'hlt, List.getElem?_eq_getElem _⟩
      obtain ⟨mb, mo, rfl, hmb, m0, m1⟩ := HM.out.pr hm
      have hw : ∀ j, wr.cell? ⟨mb, j, none⟩ = w.cell? ⟨mb, j, none⟩ := fun j => hu.out.cellq (p := ⟨mb, j, none⟩) hmb (fun h => h)
      have q0 := (hw _).trans m0
      have q1 := (hw _).trans m1
      have HT := Lib.hid (take_pr hm)
      have ag := own_ne hown.out (b := w.heap.size) (by omega)
      have ao := own_ne hown.out (b := w.heap.size + 1 + 1) (by omega)
      have am := own_ne hown.out (b := mb) (by omega)
      have x0 := cbb 0
      have x1 := cbb 1
      have x2 := cob 1
      have i0' : (0 : Int) ≤ (k : Int) := Int.natCast_nonneg _
      have i1' : (k : Int) < (ms.length : Int) := by omega
      clear hw hm m0 m1 cob cbb
      go_wp2_with fail
      refine start_ (n := 19) (S := fun w' => w'.cell? ⟨w.heap.size, 1, none⟩ = some (.slice (some ⟨mb, mo, none⟩) ms.length d) ∧ w'.cell? ⟨w.heap.size + 1 + 1, 1, none⟩ = some (.slice A' k cap) ∧ w'.cell? ⟨mb, mo + k * 2, none⟩ = some (.int .i64 m.1) ∧ w'.cell? ⟨mb, mo + k * 2 + 1, none⟩ = some (.int .i64 m.2)) (ds := [16, 18]) #[false, false, false, false, false, false, false, false, false, false, false, false, false, false, false, false, false, false, false] (by kernel_rfl) rfl rfl ⟨x1, x2, q0, q1⟩ (fun hHeld => ?_)
      refine pure_ (i := 0) (N := some 15) (v := ?_) (a' := ?_) #[true, false, false, false, false, false, false, false, false, false, false, false, false, false, false, false, false, false, false] rfl rfl (by kernel_rfl) (fun _ _ _ h => h) (Or.inl ⟨by rfl, ?_⟩) ?_ ?_
      rotate_left
      · intro w'
        go_simp
        with_reducible rfl
      rotate_left
      · simp only [Act.put, List.setIfInBounds_toArray, List.set_cons_zero, List.set_cons_succ, i64_w, i32_w]
        rfl
      refine pure_ (i := 2) (N := some 17) (v := ?_) (a' := ?_) #[true, false, true, false, false, false, false, false, false, false, false, false, false, false, false, false, false, false, false] rfl rfl (by kernel_rfl) (fun _ _ _ h => h) (Or.inl ⟨by rfl, ?_⟩) ?_ ?_
      rotate_left
      · intro w'
        go_simp
        with_reducible rfl
      rotate_left
      · simp only [Act.put, List.setIfInBounds_toArray, List.set_cons_zero, List.set_cons_succ, i64_w, i32_w]
        rfl
      refine pure_ (i := 4) (N := some 19) (v := ?_) (a' := ?_) #[true, false, true, false, true, false, false, false, false, false, false, false, false, false, false, false, false, false, false] rfl rfl (by kernel_rfl) (fun _ _ _ h => h) (Or.inl ⟨by rfl, ?_⟩) ?_ ?_
      rotate_left
      · intro w'
        go_simp
        with_reducible rfl
      rotate_left
      · simp only [Act.put, List.setIfInBounds_toArray, List.set_cons_zero, List.set_cons_succ, i64_w, i32_w]
        rfl
      refine pure_ (i := 8) (N := some 23) (v := ?_) (a' := ?_) #[true, false, true, false, true, false, false, false, true, false, false, false, false, false, false, false, false, false, false] rfl rfl (by kernel_rfl) (fun _ _ _ h => h) (Or.inl ⟨by rfl, ?_⟩) ?_ ?_
      rotate_left
      · intro w'
        go_simp
        with_reducible rfl
      rotate_left
      · simp only [Act.put, List.setIfInBounds_toArray, List.set_cons_zero, List.set_cons_succ, i64_w, i32_w]
        rfl
      refine pure_ (i := 10) (N := some 25) (v := ?_) (a' := ?_) #[true, false, true, false, true, false, false, false, true, false, true, false, false, false, false, false, false, false, false] rfl rfl (by kernel_rfl) (fun _ _ _ h => h) (Or.inl ⟨by rfl, ?_⟩) ?_ ?_
      rotate_left
      · intro w'
        go_simp
        with_reducible rfl
      rotate_left
      · simp only [Act.put, List.setIfInBounds_toArray, List.set_cons_zero, List.set_cons_succ, i64_w, i32_w]
        rfl
      refine take_ (i := 1) (N := some 16) (v := ?_) (a' := ?_) #[true, true, true, false, true, false, false, false, true, false, true, false, false, false, false, false, false, false, false] rfl rfl (by kernel_rfl) (fun _ _ _ h => h) (Or.inl ⟨by rfl, ?_⟩) hHeld ?_ ?_
      rotate_left
      · rintro w' ⟨s0, s1, s2, s3⟩
        go_simp
        with_reducible rfl
      rotate_left
      · simp only [Act.put, List.setIfInBounds_toArray, List.set_cons_zero, List.set_cons_succ, i64_w, i32_w]
        rfl
      refine take_ (i := 3) (N := some 18) (v := ?_) (a' := ?_) #[true, true, true, true, true, false, false, false, true, false, true, false, false, false, false, false, false, false, false] rfl rfl (by kernel_rfl) (fun _ _ _ h => h) (Or.inl ⟨by rfl, ?_⟩) hHeld ?_ ?_
      rotate_left
      · rintro w' ⟨s0, s1, s2, s3⟩
        go_simp
        with_reducible rfl
      rotate_left
      · simp only [Act.put, List.setIfInBounds_toArray, List.set_cons_zero, List.set_cons_succ, i64_w, i32_w]
        rfl
      refine pure_ (i := 5) (N := some 20) (v := ?_) (a' := ?_) #[true, true, true, true, true, true, false, false, true, false, true, false, false, false, false, false, false, false, false] rfl rfl (by kernel_rfl) (fun _ _ _ h => h) (Or.inl ⟨by rfl, ?_⟩) ?_ ?_
      rotate_left
      · intro w'
        go_simp
        with_reducible rfl
      rotate_left
      · simp only [Act.put, List.setIfInBounds_toArray, List.set_cons_zero, List.set_cons_succ, i64_w, i32_w]
        rfl
      refine pure_ (i := 6) (N := some 21) (v := ?_) (a' := ?_) #[true, true, true, true, true, true, true, false, true, false, true, false, false, false, false, false, false, false, false] rfl rfl (by kernel_rfl) (fun _ _ _ h => h) (Or.inl ⟨by rfl, ?_⟩) ?_ ?_
      rotate_left
      · intro w'
        go_simp
        with_reducible rfl
      rotate_left
      · simp only [Act.put, List.setIfInBounds_toArray, List.set_cons_zero, List.set_cons_succ, i64_w, i32_w]
        rfl
      refine take_ (i := 7) (N := some 22) (v := ?_) (a' := ?_) #[true, true, true, true, true, true, true, true, true, false, true, false, false, false, false, false, false, false, false] rfl rfl (by kernel_rfl) (fun _ _ _ h => h) (Or.inl ⟨by rfl, ?_⟩) hHeld ?_ ?_
      rotate_left
      · rintro w' ⟨s0, s1, s2, s3⟩
        go_simp
        with_reducible rfl
      rotate_left
      · simp only [Act.put, List.setIfInBounds_toArray, List.set_cons_zero, List.set_cons_succ, i64_w, i32_w]
        rfl
      refine take_ (i := 9) (N := some 24) (v := ?_) (a' := ?_) #[true, true, true, true, true, true, true, true, true, true, true, false, false, false, false, false, false, false, false] rfl rfl (by kernel_rfl) (fun _ _ _ h => h) (Or.inl ⟨by rfl, ?_⟩) hHeld ?_ ?_
      rotate_left
      · rintro w' ⟨s0, s1, s2, s3⟩
        go_simp
        with_reducible rfl
      rotate_left
      · simp only [Act.put, List.setIfInBounds_toArray, List.set_cons_zero, List.set_cons_succ, i64_w, i32_w]
        rfl
      refine pure_ (i := 11) (N := some 26) (v := ?_) (a' := ?_) #[true, true, true, true, true, true, true, true, true, true, true, true, false, false, false, false, false, false, false] rfl rfl (by kernel_rfl) (fun _ _ _ h => h) (Or.inl ⟨by rfl, ?_⟩) ?_ ?_
      rotate_left
      · intro w'
        go_simp
        with_reducible rfl
      rotate_left
      · simp only [Act.put, List.setIfInBounds_toArray, List.set_cons_zero, List.set_cons_succ, i64_w, i32_w]
        rfl
      refine pure_ (i := 12) (N := some 27) (v := ?_) (a' := ?_) #[true, true, true, true, true, true, true, true, true, true, true, true, true, false, false, false, false, false, false] rfl rfl (by kernel_rfl) (fun _ _ _ h => h) (Or.inl ⟨by rfl, ?_⟩) ?_ ?_
      rotate_left
      · intro w'
        go_simp
        with_reducible rfl
      rotate_left
      · simp only [Act.put, List.setIfInBounds_toArray, List.set_cons_zero, List.set_cons_succ, i64_w, i32_w]
        rfl
      refine take_ (i := 13) (N := some 28) (v := ?_) (a' := ?_) #[true, true, true, true, true, true, true, true, true, true, true, true, true, true, false, false, false, false, false] rfl rfl (by kernel_rfl) (fun _ _ _ h => h) (Or.inl ⟨by rfl, ?_⟩) hHeld ?_ ?_
      rotate_left
      · rintro w' ⟨s0, s1, s2, s3⟩
        go_simp
        with_reducible rfl
      rotate_left
      · simp only [Act.put, List.setIfInBounds_toArray, List.set_cons_zero, List.set_cons_succ, i64_w, i32_w]
        rfl
      refine pure_ (i := 14) (N := some 29) (v := ?_) (a' := ?_) #[true, true, true, true, true, true, true, true, true, true, true, true, true, true, true, false, false, false, false] rfl rfl (by kernel_rfl) (fun _ _ _ h => h) (Or.inl ⟨by rfl, ?_⟩) ?_ ?_
      rotate_left
      · intro w'
        go_simp
        with_reducible rfl
      rotate_left
      · simp only [Act.put, List.setIfInBounds_toArray, List.set_cons_zero, List.set_cons_succ, i64_w, i32_w]
        rfl
      refine one_ (i := 15) (N := some 30) #[true, true, true, true, true, true, true, true, true, true, true, true, true, true, true, true, false, false, false] rfl rfl (by kernel_rfl) (by decide) (fun K hK => ?_)
      refine value_ (w1 := ?_) (v := ?_) (by rfl) rfl ?_ ?_
      rotate_left 2
      · go_simp
        constructor
        · rfl
        · rfl
      refine hK.out _ _ ⟨held_alloc hHeld.1 _, held_alloc hHeld.2.1 _, held_alloc hHeld.2.2.1 _, held_alloc hHeld.2.2.2 _⟩ (fun hHeld => ?_)
      clear hK K
      refine norm_ (a' := ?_) ?_ ?_
      rotate_left
      · show Act.put _ (some 30) _ = _
        simp only [Act.put, List.setIfInBounds_toArray, List.set_cons_zero, List.set_cons_succ, i64_w, i32_w]
        rfl
      refine last_ (i := 16) (N := some 31) #[true, true, true, true, true, true, true, true, true, true, true, true, true, true, true, true, true, false, false] rfl rfl (by kernel_rfl) (by decide) (fun K hK => ?_)
      refine step_append_lies _ (by rfl) _ _ _ (by rfl) (w.heap.size + 1 + 1 + 1) 64 i0 _ 2 16 Try.underlying29 hj hz0 hz1 hz2 rfl (by omega) (.slice A' k cap) k (prs (ms.take k)) (by rfl) ((hown.out.alloc _).drew) ⟨wr.heap.size, 0, none⟩ 1 1 [.int .i64 m.1, .int .i64 m.2] (by rfl) (by rfl) (World.news_of_block (cs := #[.int .i64 m.1, .int .i64 m.2]) (t := 64) (fr := (0, 0)) (heap_alloc_new wr _)) (by simp [Value.oneCell']) (by omega) (by unfold maxLen; omega) (by omega) (by simp; omega) (wr.heap.size + 1) (by simp) ?_
      intro gg cp w1 hown1 hgrow hat hlt1
      have hob1 := Blk.upd ((hob.out.alloc (.cells #[.int .i64 m.1, .int .i64 m.2] 64)).drew) (Upd.of_grown hgrow) ao
      have f1 := hob1.frz
      have o1 := hob1.cell 1
      refine hK.out _ _ ?_
      clear hK K
      refine norm_ (a' := ?_) ?_ ?_
      rotate_left
      · show Act.put _ (some 31) _ = _
        simp only [Act.put, List.setIfInBounds_toArray, List.set_cons_zero, List.set_cons_succ, i64_w, i32_w]
        rfl
      refine pure_ (i := 17) (N := some 32) (v := ?_) (a' := ?_) #[true, true, true, true, true, true, true, true, true, true, true, true, true, true, true, true, true, true, false] rfl rfl (by kernel_rfl) (fun _ _ _ h => h) (Or.inl ⟨by rfl, ?_⟩) ?_ ?_
      rotate_left
      · intro w'
        go_simp
        with_reducible rfl
      rotate_left
      · simp only [Act.put, List.setIfInBounds_toArray, List.set_cons_zero, List.set_cons_succ, i64_w, i32_w]
        rfl
      refine last_ (i := 18) (N := none) #[true, true, true, true, true, true, true, true, true, true, true, true, true, true, true, true, true, true, true] rfl rfl (by kernel_rfl) (by decide) (fun K hK => ?_)
      refine skip_ (w1 := ?_) (by rfl) rfl ?_ ?_
      rotate_left
      · go_simp
        rfl
      refine hK.out _ _ ?_
      clear hK K
      refine done_ (by kernel_rfl) ?_
      have hbb1 := Blk.upd ((hbb.out.alloc (.cells #[.int .i64 m.1, .int .i64 m.2] 64)).drew) (Upd.of_grown hgrow) ag
      have hzb1 := Blk.upd ((hzb.out.alloc (.cells #[.int .i64 m.1, .int .i64 m.2] 64)).drew) (Upd.of_grown hgrow) (own_ne hown.out (b := w.heap.size + 1) (by omega))
      have HU1 : Hid (Upd (fun _ => False) w w1) := ((hu.out.alloc (.cells #[.int .i64 m.1, .int .i64 m.2] 64)).drew).trans (Upd.of_grown hgrow) (fun i h => .inr (Nat.le_trans (by omega) (own_ge hown.out h)))
      have HB1 := Lib.hid (And.intro hbb1 (And.intro hzb1 hob1))
      have HO := Lib.hid hown1
      clear hbb1 hzb1 hob1 hown1 hat
      go_wp2
      go_roundw
      case rel =>
        refine ⟨k + 1, some ⟨gg, 0, none⟩, cp, by omega, by go_num, Lib.hid ?_, Lib.hid ?_, Lib.hid ?_, Lib.hid ?_, Lib.hid ?_⟩
        · rw [HT.out]
          exact ownsRow_setCell_below HO.out (a := ⟨w.heap.size + 1 + 1, 1, none⟩) (show w.heap.size + 1 + 1 < _ by omega) _
        · exact HB1.out.2.2.set 1 _
        · exact HB1.out.2.1.far (show w.heap.size + 1 ≠ w.heap.size + 1 + 1 by omega) _
        · exact HB1.out.1.far (show w.heap.size ≠ w.heap.size + 1 + 1 by omega) _
        · exact HU1.out.set (.inr (show w.heap.size ≤ w.heap.size + 1 + 1 by omega)) _
      case measure => simp [intOf]; omega
    · have hkl : k = ms.length := by omega
      subst hkl
      have HO : Hid (wr.ownsRow (w.heap.size + 1 + 1 + 1) 64 2 (.slice A' ms.length cap) ms.length (prs ms)) := by have h := hown.out; rwa [List.take_length] at h
      have czb := hzb.out.cell
      have fzb := hzb.out.frz
      go_wp2
      refine bodyPost_ret (v := .agg #[.slice A n c, .slice A' ms.length cap]) (by simp [results, Try.results12, go_sem, czb, cob, hlo]) rfl ⟨A', cap, rfl, ?_, ?_⟩
      · obtain ⟨A2, c2, e, hs, _⟩ := Sl.of_own (ownsRow_setCell_below (ownsRow_setCell_below HO.out (a := ⟨w.heap.size + 1, 0, none⟩) (show w.heap.size + 1 < _ by omega) (.slice A n c)) (a := ⟨w.heap.size + 1, 1, none⟩) (show w.heap.size + 1 < _ by omega) (.slice A' ms.length cap))
        injection e with e1 e2 e3
        subst e1
        subst e3
        exact hs
      · exact ((hu.out.set (.inr (show w.heap.size ≤ w.heap.size + 1 by omega)) _).set (.inr (show w.heap.size ≤ w.heap.size + 1 by omega)) _).below0
theorem infoR : (Try.prog.info? 45).map (fun i => (i.zero, i.size, i.bytes)) = some (some (.agg #[.int .i64 0, .int .i64 0]), 2, 16) := by kernel_rfl
set_option maxRecDepth 100000 in
set_option maxHeartbeats 4000000 in
theorem real_any (A M : Option Addr) (c d n : Nat) (ms : List (Int × Int)) (hml : ms.length ≤ 1000) (w : World) (hm : Sl w M ms.length d (prs ms)) :
    Calls Try.prog 18 #[.agg #[.slice A n c, .slice M ms.length d]] w fun e w' => ∃ M' d',
      e = .returned (.agg #[.slice A n c, .slice M' ms.length d']) ∧ Sl w' M' ms.length d' (prs ms) ∧ Below w.heap.size w w' := by
  have hle2 := hm.le
  have hcm2 := hm.cm
  unfold maxLen at hcm2
  have HM := Lib.hid hm
  obtain ⟨i0, hj, hz0, hz1, hz2⟩ := info_parts infoR
  clear hm
  go_enter Try.func18, Try.ntmps18
  go_wp2_with fail
  go_loopw [4] (fun i wr => ∃ (k : Nat) (A' : Option Addr) (cap : Nat), k ≤ ms.length ∧ i = .int .i64 k ∧ Hid (wr.ownsRow (w.heap.size + 1 + 1 + 1) 45 2 (.slice A' k cap) k (prs (ms.take k))) ∧ Hid (Blk wr (w.heap.size + 1 + 1) 25 #[.slice A n c, .slice A' k cap]) ∧ Hid (Blk wr (w.heap.size + 1) 25 #[.slice none 0 0, .slice none 0 0]) ∧ Hid (Blk wr w.heap.size 31 #[.slice A n c, .slice M ms.length d]) ∧ Hid (Upd (fun _ => False) w wr)) (fun i _ => ms.length - (intOf i).toNat)
  case atStart =>
    refine ⟨0, none, 0, Nat.zero_le _, rfl, Lib.hid ⟨by simp [prs], .inl ⟨rfl, rfl⟩⟩, Lib.hid (Blk.new2 w _ _ _ _), Lib.hid ((Blk.new1 w _ _ _).alloc _), Lib.hid (((Blk.new w _ _).alloc _).alloc _), Lib.hid (by repeat (first | exact Upd.refl _ _ | refine Upd.alloc ?_ _ | refine Upd.drew ?_ | refine Upd.drewN ?_ _ | refine Upd.put ?_ _ _))⟩
  case round =>
    obtain ⟨k, A', cap, hk, rfl, hown, hob, hzb, hbb, hu⟩ := hrel
    have cob := hob.out.cell
    have cbb := hbb.out.cell
    have fob := hob.out.frz
    have hlo := hob.out.lt
    by_cases hlt : k < ms.length
    · obtain ⟨m, hm⟩ : ∃ m, ms[k]? = some m := ⟨ms[k]'hlt, List.getElem?_eq_getElem _⟩
      obtain ⟨mb, mo, rfl, hmb, m0, m1⟩ := HM.out.pr hm
      have hw : ∀ j, wr.cell? ⟨mb, j, none⟩ = w.cell? ⟨mb, j, none⟩ := fun j => hu.out.cellq (p := ⟨mb, j, none⟩) hmb (fun h => h)
      have q0 := (hw _).trans m0
      have q1 := (hw _).trans m1
      have HT := Lib.hid (take_pr hm)
      have ag := own_ne hown.out (b := w.heap.size) (by omega)
      have ao := own_ne hown.out (b := w.heap.size + 1 + 1) (by omega)
      have am := own_ne hown.out (b := mb) (by omega)
      have x0 := cbb 0
      have x1 := cbb 1
      have x2 := cob 1
      have i0' : (0 : Int) ≤ (k : Int) := Int.natCast_nonneg _
      have i1' : (k : Int) < (ms.length : Int) := by omega
      clear hw hm m0 m1 cob cbb
      go_wp2_with fail
      refine start_ (n := 19) (S := fun w' => w'.cell? ⟨w.heap.size, 1, none⟩ = some (.slice (some ⟨mb, mo, none⟩) ms.length d) ∧ w'.cell? ⟨w.heap.size + 1 + 1, 1, none⟩ = some (.slice A' k cap) ∧ w'.cell? ⟨mb, mo + k * 2, none⟩ = some (.int .i64 m.1) ∧ w'.cell? ⟨mb, mo + k * 2 + 1, none⟩ = some (.int .i64 m.2)) (ds := [16, 18]) #[false, false, false, false, false, false, false, false, false, false, false, false, false, false, false, false, false, false, false] (by kernel_rfl) rfl rfl ⟨x1, x2, q0, q1⟩ (fun hHeld => ?_)
      refine pure_ (i := 0) (N := some 15) (v := ?_) (a' := ?_) #[true, false, false, false, false, false, false, false, false, false, false, false, false, false, false, false, false, false, false] rfl rfl (by kernel_rfl) (fun _ _ _ h => h) (Or.inl ⟨by rfl, ?_⟩) ?_ ?_
      rotate_left
      · intro w'
        go_simp
        with_reducible rfl
      rotate_left
      · simp only [Act.put, List.setIfInBounds_toArray, List.set_cons_zero, List.set_cons_succ, i64_w, i32_w]
        rfl
      refine pure_ (i := 2) (N := some 17) (v := ?_) (a' := ?_) #[true, false, true, false, false, false, false, false, false, false, false, false, false, false, false, false, false, false, false] rfl rfl (by kernel_rfl) (fun _ _ _ h => h) (Or.inl ⟨by rfl, ?_⟩) ?_ ?_
      rotate_left
      · intro w'
        go_simp
        with_reducible rfl
      rotate_left
      · simp only [Act.put, List.setIfInBounds_toArray, List.set_cons_zero, List.set_cons_succ, i64_w, i32_w]
        rfl
      refine pure_ (i := 4) (N := some 19) (v := ?_) (a' := ?_) #[true, false, true, false, true, false, false, false, false, false, false, false, false, false, false, false, false, false, false] rfl rfl (by kernel_rfl) (fun _ _ _ h => h) (Or.inl ⟨by rfl, ?_⟩) ?_ ?_
      rotate_left
      · intro w'
        go_simp
        with_reducible rfl
      rotate_left
      · simp only [Act.put, List.setIfInBounds_toArray, List.set_cons_zero, List.set_cons_succ, i64_w, i32_w]
        rfl
      refine pure_ (i := 8) (N := some 23) (v := ?_) (a' := ?_) #[true, false, true, false, true, false, false, false, true, false, false, false, false, false, false, false, false, false, false] rfl rfl (by kernel_rfl) (fun _ _ _ h => h) (Or.inl ⟨by rfl, ?_⟩) ?_ ?_
      rotate_left
      · intro w'
        go_simp
        with_reducible rfl
      rotate_left
      · simp only [Act.put, List.setIfInBounds_toArray, List.set_cons_zero, List.set_cons_succ, i64_w, i32_w]
        rfl
      refine pure_ (i := 10) (N := some 25) (v := ?_) (a' := ?_) #[true, false, true, false, true, false, false, false, true, false, true, false, false, false, false, false, false, false, false] rfl rfl (by kernel_rfl) (fun _ _ _ h => h) (Or.inl ⟨by rfl, ?_⟩) ?_ ?_
      rotate_left
      · intro w'
        go_simp
        with_reducible rfl
      rotate_left
      · simp only [Act.put, List.setIfInBounds_toArray, List.set_cons_zero, List.set_cons_succ, i64_w, i32_w]
        rfl
      refine take_ (i := 1) (N := some 16) (v := ?_) (a' := ?_) #[true, true, true, false, true, false, false, false, true, false, true, false, false, false, false, false, false, false, false] rfl rfl (by kernel_rfl) (fun _ _ _ h => h) (Or.inl ⟨by rfl, ?_⟩) hHeld ?_ ?_
      rotate_left
      · rintro w' ⟨s0, s1, s2, s3⟩
        go_simp
        with_reducible rfl
      rotate_left
      · simp only [Act.put, List.setIfInBounds_toArray, List.set_cons_zero, List.set_cons_succ, i64_w, i32_w]
        rfl
      refine take_ (i := 3) (N := some 18) (v := ?_) (a' := ?_) #[true, true, true, true, true, false, false, false, true, false, true, false, false, false, false, false, false, false, false] rfl rfl (by kernel_rfl) (fun _ _ _ h => h) (Or.inl ⟨by rfl, ?_⟩) hHeld ?_ ?_
      rotate_left
      · rintro w' ⟨s0, s1, s2, s3⟩
        go_simp
        with_reducible rfl
      rotate_left
      · simp only [Act.put, List.setIfInBounds_toArray, List.set_cons_zero, List.set_cons_succ, i64_w, i32_w]
        rfl
      refine pure_ (i := 5) (N := some 20) (v := ?_) (a' := ?_) #[true, true, true, true, true, true, false, false, true, false, true, false, false, false, false, false, false, false, false] rfl rfl (by kernel_rfl) (fun _ _ _ h => h) (Or.inl ⟨by rfl, ?_⟩) ?_ ?_
      rotate_left
      · intro w'
        go_simp
        with_reducible rfl
      rotate_left
      · simp only [Act.put, List.setIfInBounds_toArray, List.set_cons_zero, List.set_cons_succ, i64_w, i32_w]
        rfl
      refine pure_ (i := 6) (N := some 21) (v := ?_) (a' := ?_) #[true, true, true, true, true, true, true, false, true, false, true, false, false, false, false, false, false, false, false] rfl rfl (by kernel_rfl) (fun _ _ _ h => h) (Or.inl ⟨by rfl, ?_⟩) ?_ ?_
      rotate_left
      · intro w'
        go_simp
        with_reducible rfl
      rotate_left
      · simp only [Act.put, List.setIfInBounds_toArray, List.set_cons_zero, List.set_cons_succ, i64_w, i32_w]
        rfl
      refine take_ (i := 7) (N := some 22) (v := ?_) (a' := ?_) #[true, true, true, true, true, true, true, true, true, false, true, false, false, false, false, false, false, false, false] rfl rfl (by kernel_rfl) (fun _ _ _ h => h) (Or.inl ⟨by rfl, ?_⟩) hHeld ?_ ?_
      rotate_left
      · rintro w' ⟨s0, s1, s2, s3⟩
        go_simp
        with_reducible rfl
      rotate_left
      · simp only [Act.put, List.setIfInBounds_toArray, List.set_cons_zero, List.set_cons_succ, i64_w, i32_w]
        rfl
      refine take_ (i := 9) (N := some 24) (v := ?_) (a' := ?_) #[true, true, true, true, true, true, true, true, true, true, true, false, false, false, false, false, false, false, false] rfl rfl (by kernel_rfl) (fun _ _ _ h => h) (Or.inl ⟨by rfl, ?_⟩) hHeld ?_ ?_
      rotate_left
      · rintro w' ⟨s0, s1, s2, s3⟩
        go_simp
        with_reducible rfl
      rotate_left
      · simp only [Act.put, List.setIfInBounds_toArray, List.set_cons_zero, List.set_cons_succ, i64_w, i32_w]
        rfl
      refine pure_ (i := 11) (N := some 26) (v := ?_) (a' := ?_) #[true, true, true, true, true, true, true, true, true, true, true, true, false, false, false, false, false, false, false] rfl rfl (by kernel_rfl) (fun _ _ _ h => h) (Or.inl ⟨by rfl, ?_⟩) ?_ ?_
      rotate_left
      · intro w'
        go_simp
        with_reducible rfl
      rotate_left
      · simp only [Act.put, List.setIfInBounds_toArray, List.set_cons_zero, List.set_cons_succ, i64_w, i32_w]
        rfl
      refine pure_ (i := 12) (N := some 27) (v := ?_) (a' := ?_) #[true, true, true, true, true, true, true, true, true, true, true, true, true, false, false, false, false, false, false] rfl rfl (by kernel_rfl) (fun _ _ _ h => h) (Or.inl ⟨by rfl, ?_⟩) ?_ ?_
      rotate_left
      · intro w'
        go_simp
        with_reducible rfl
      rotate_left
      · simp only [Act.put, List.setIfInBounds_toArray, List.set_cons_zero, List.set_cons_succ, i64_w, i32_w]
        rfl
      refine take_ (i := 13) (N := some 28) (v := ?_) (a' := ?_) #[true, true, true, true, true, true, true, true, true, true, true, true, true, true, false, false, false, false, false] rfl rfl (by kernel_rfl) (fun _ _ _ h => h) (Or.inl ⟨by rfl, ?_⟩) hHeld ?_ ?_
      rotate_left
      · rintro w' ⟨s0, s1, s2, s3⟩
        go_simp
        with_reducible rfl
      rotate_left
      · simp only [Act.put, List.setIfInBounds_toArray, List.set_cons_zero, List.set_cons_succ, i64_w, i32_w]
        rfl
      refine pure_ (i := 14) (N := some 29) (v := ?_) (a' := ?_) #[true, true, true, true, true, true, true, true, true, true, true, true, true, true, true, false, false, false, false] rfl rfl (by kernel_rfl) (fun _ _ _ h => h) (Or.inl ⟨by rfl, ?_⟩) ?_ ?_
      rotate_left
      · intro w'
        go_simp
        with_reducible rfl
      rotate_left
      · simp only [Act.put, List.setIfInBounds_toArray, List.set_cons_zero, List.set_cons_succ, i64_w, i32_w]
        rfl
      refine one_ (i := 15) (N := some 30) #[true, true, true, true, true, true, true, true, true, true, true, true, true, true, true, true, false, false, false] rfl rfl (by kernel_rfl) (by decide) (fun K hK => ?_)
      refine value_ (w1 := ?_) (v := ?_) (by rfl) rfl ?_ ?_
      rotate_left 2
      · go_simp
        constructor
        · rfl
        · rfl
      refine hK.out _ _ ⟨held_alloc hHeld.1 _, held_alloc hHeld.2.1 _, held_alloc hHeld.2.2.1 _, held_alloc hHeld.2.2.2 _⟩ (fun hHeld => ?_)
      clear hK K
      refine norm_ (a' := ?_) ?_ ?_
      rotate_left
      · show Act.put _ (some 30) _ = _
        simp only [Act.put, List.setIfInBounds_toArray, List.set_cons_zero, List.set_cons_succ, i64_w, i32_w]
        rfl
      refine last_ (i := 16) (N := some 31) #[true, true, true, true, true, true, true, true, true, true, true, true, true, true, true, true, true, false, false] rfl rfl (by kernel_rfl) (by decide) (fun K hK => ?_)
      refine step_append_lies _ (by rfl) _ _ _ (by rfl) (w.heap.size + 1 + 1 + 1) 45 i0 _ 2 16 Try.underlying23 hj hz0 hz1 hz2 rfl (by omega) (.slice A' k cap) k (prs (ms.take k)) (by rfl) ((hown.out.alloc _).drew) ⟨wr.heap.size, 0, none⟩ 1 1 [.int .i64 m.1, .int .i64 m.2] (by rfl) (by rfl) (World.news_of_block (cs := #[.int .i64 m.1, .int .i64 m.2]) (t := 45) (fr := (0, 0)) (heap_alloc_new wr _)) (by simp [Value.oneCell']) (by omega) (by unfold maxLen; omega) (by omega) (by simp; omega) (wr.heap.size + 1) (by simp) ?_
      intro gg cp w1 hown1 hgrow hat hlt1
      have hob1 := Blk.upd ((hob.out.alloc (.cells #[.int .i64 m.1, .int .i64 m.2] 45)).drew) (Upd.of_grown hgrow) ao
      have f1 := hob1.frz
      have o1 := hob1.cell 1
      refine hK.out _ _ ?_
      clear hK K
      refine norm_ (a' := ?_) ?_ ?_
      rotate_left
      · show Act.put _ (some 31) _ = _
        simp only [Act.put, List.setIfInBounds_toArray, List.set_cons_zero, List.set_cons_succ, i64_w, i32_w]
        rfl
      refine pure_ (i := 17) (N := some 32) (v := ?_) (a' := ?_) #[true, true, true, true, true, true, true, true, true, true, true, true, true, true, true, true, true, true, false] rfl rfl (by kernel_rfl) (fun _ _ _ h => h) (Or.inl ⟨by rfl, ?_⟩) ?_ ?_
      rotate_left
      · intro w'
        go_simp
        with_reducible rfl
      rotate_left
      · simp only [Act.put, List.setIfInBounds_toArray, List.set_cons_zero, List.set_cons_succ, i64_w, i32_w]
        rfl
      refine last_ (i := 18) (N := none) #[true, true, true, true, true, true, true, true, true, true, true, true, true, true, true, true, true, true, true] rfl rfl (by kernel_rfl) (by decide) (fun K hK => ?_)
      refine skip_ (w1 := ?_) (by rfl) rfl ?_ ?_
      rotate_left
      · go_simp
        rfl
      refine hK.out _ _ ?_
      clear hK K
      refine done_ (by kernel_rfl) ?_
      have hbb1 := Blk.upd ((hbb.out.alloc (.cells #[.int .i64 m.1, .int .i64 m.2] 45)).drew) (Upd.of_grown hgrow) ag
      have hzb1 := Blk.upd ((hzb.out.alloc (.cells #[.int .i64 m.1, .int .i64 m.2] 45)).drew) (Upd.of_grown hgrow) (own_ne hown.out (b := w.heap.size + 1) (by omega))
      have HU1 : Hid (Upd (fun _ => False) w w1) := ((hu.out.alloc (.cells #[.int .i64 m.1, .int .i64 m.2] 45)).drew).trans (Upd.of_grown hgrow) (fun i h => .inr (Nat.le_trans (by omega) (own_ge hown.out h)))
      have HB1 := Lib.hid (And.intro hbb1 (And.intro hzb1 hob1))
      have HO := Lib.hid hown1
      clear hbb1 hzb1 hob1 hown1 hat
      go_wp2
      go_roundw
      case rel =>
        refine ⟨k + 1, some ⟨gg, 0, none⟩, cp, by omega, by go_num, Lib.hid ?_, Lib.hid ?_, Lib.hid ?_, Lib.hid ?_, Lib.hid ?_⟩
        · rw [HT.out]
          exact ownsRow_setCell_below HO.out (a := ⟨w.heap.size + 1 + 1, 1, none⟩) (show w.heap.size + 1 + 1 < _ by omega) _
        · exact HB1.out.2.2.set 1 _
        · exact HB1.out.2.1.far (show w.heap.size + 1 ≠ w.heap.size + 1 + 1 by omega) _
        · exact HB1.out.1.far (show w.heap.size ≠ w.heap.size + 1 + 1 by omega) _
        · exact HU1.out.set (.inr (show w.heap.size ≤ w.heap.size + 1 + 1 by omega)) _
      case measure => simp [intOf]; omega
    · have hkl : k = ms.length := by omega
      subst hkl
      have HO : Hid (wr.ownsRow (w.heap.size + 1 + 1 + 1) 45 2 (.slice A' ms.length cap) ms.length (prs ms)) := by have h := hown.out; rwa [List.take_length] at h
      have czb := hzb.out.cell
      have fzb := hzb.out.frz
      go_wp2
      refine bodyPost_ret (v := .agg #[.slice A n c, .slice A' ms.length cap]) (by simp [results, Try.results18, go_sem, czb, cob, hlo]) rfl ⟨A', cap, rfl, ?_, ?_⟩
      · obtain ⟨A2, c2, e, hs, _⟩ := Sl.of_own (ownsRow_setCell_below (ownsRow_setCell_below HO.out (a := ⟨w.heap.size + 1, 0, none⟩) (show w.heap.size + 1 < _ by omega) (.slice A n c)) (a := ⟨w.heap.size + 1, 1, none⟩) (show w.heap.size + 1 < _ by omega) (.slice A' ms.length cap))
        injection e with e1 e2 e3
        subst e1
        subst e3
        exact hs
      · exact ((hu.out.set (.inr (show w.heap.size ≤ w.heap.size + 1 by omega)) _).set (.inr (show w.heap.size ≤ w.heap.size + 1 by omega)) _).below0
end Go.Proofs.Ytdfnhbhcgkdplaa
