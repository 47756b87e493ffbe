/- Batches: one more. -/
import Derived.Test.YtnpecnljibeddaaBu
import Derived.Test.YtnpecnljibeddaaOw
namespace Go.Proofs.Ytnpecnljibeddaa
open Go.RowKit
set_option linter.unusedVariables false
set_option linter.unusedSimpArgs false

/-- A batch with one more, if there is room. -/
def badd (xs : List Int) (ms : List (Int × Int)) (id arg most : Int) : List Int × List (Int × Int) × Bool :=
  if idx xs arg < xs.length then (xs, ms ++ [(id, (idx xs arg : Int))], true)
  else if most ≤ xs.length then (xs, ms, false)
  else (xs ++ [arg], ms ++ [(id, (xs.length : Int))], true)

theorem badd_len1 (xs : List Int) (ms : List (Int × Int)) (id arg most : Int) : (badd xs ms id arg most).1.length ≤ xs.length + 1 := by
  unfold badd
  split
  · simp
  · split <;> simp
theorem badd_len2 (xs : List Int) (ms : List (Int × Int)) (id arg most : Int) : (badd xs ms id arg most).2.1.length ≤ ms.length + 1 := by
  unfold badd
  split
  · simp
  · split <;> simp
theorem index_to {A : Option Addr} {cap : Nat} {xs : List Int} {a r : Int} (hr : sidx xs a = r) (w : World) (hs : Sl w A xs.length cap (nums xs)) :
    Calls Try.prog 27 #[.slice A xs.length cap, .int .i64 a] w fun e w' => e = .returned (.int .i64 r) ∧ w = w' := by
  have := index_any A cap xs a w hs
  rwa [hr] at this

theorem own_nb {w : World} {base : Nat} {e : TypeId} {size n m c k : Nat} {A : Option Addr} {xs : List Value} (h : w.ownsRow base e size (.slice A m c) n xs) (hn : ∀ b o, A = some ⟨b, o, none⟩ → b ≠ k) : (Value.slice A m c).ownBlock ≠ some k := by
  rcases h.2 with ⟨he, _⟩ | ⟨g, cap, cur, he, _⟩
  · injection he with h1
    subst h1
    simp [Value.ownBlock]
  · injection he with h1
    subst h1
    intro hk
    have : g = k := by simpa [Value.ownBlock] using hk
    exact hn g 0 rfl this
theorem infoM : (Try.prog.info? 58).map (fun i => (i.zero, i.size, i.bytes)) = some (some (.agg #[.int .i64 0, .int .i64 0]), 2, 16) := by kernel_rfl
theorem infoI : (Try.prog.info? 3).map (fun i => (i.zero, i.size, i.bytes)) = some (some (.int .i64 0), 1, 8) := by kernel_rfl

set_option maxHeartbeats 1000000 in
theorem add_there (A M : Option Addr) (c d : Nat) (xs : List Int) (ms : List (Int × Int)) (id arg most : Int) (hi : idx xs arg < xs.length) (hx : xs.length ≤ 1000) (hml : ms.length ≤ 1000) (w : World) (ha : Sl w A xs.length c (nums xs)) (hm : Sl w M ms.length d (prs ms)) :
    Calls Try.prog 21 #[.agg #[.slice A xs.length c, .slice M ms.length d], .int .i64 id, .int .i64 arg, .int .i64 most] w fun e w' => ∃ M' d',
      e = .returned (.tuple #[.agg #[.slice A xs.length c, .slice M' (ms.length + 1) d'], .bool true]) ∧ Sl w' M' (ms.length + 1) d' (prs (ms ++ [(id, (idx xs arg : Int))])) ∧ Nw w.heap.size M' M ∧ (∃ ob, w.heap.size ≤ ob ∧ w'.ownsRow ob 58 2 (.slice M' (ms.length + 1) d') (ms.length + 1) (prs (ms ++ [(id, (idx xs arg : Int))]))) ∧ Below w.heap.size w w' := by
  have hle1 := ha.le
  have hle2 := hm.le
  have hcm2 := hm.cm
  unfold maxLen at hcm2
  have HA := Lib.hid ha
  have HM := Lib.hid hm
  have HI : Hid (sidx xs arg = (idx xs arg : Int)) := by show sidx xs arg = _; unfold sidx; rw [if_pos hi]
  obtain ⟨i0, hj, hz0, hz1, hz2⟩ := info_parts infoM
  have hge : decide ((idx xs arg : Int) ≥ 0) = true := by simp
  have hhi := Lib.hid hi
  clear ha hm hi
  go_enter Try.func21, Try.ntmps21
  go_wp2_with fail
  refine (index_to HI.out _ ((HA.out.alloc _).alloc _)).mono ?_
  rintro e w' ⟨rfl, rfl⟩
  go_wp2_with (at_builtin; go_loud (refine wpList_append_grows _ rfl _ _ 38 rfl 58 i0 (.agg #[.int .i64 0, .int .i64 0]) 2 16 Try.underlying38 hj hz0 hz1 hz2 rfl (by decide) M ms.length ms.length (prs ms) rfl ?c1 (prs_len ms) ?c3 ⟨w.heap.size + 1 + 1, 0, none⟩ 1 1 [.int .i64 id, .int .i64 (idx xs arg : Int)] rfl rfl ?c4 ?c5 (by omega) ?c7 ?c8 ?_); (case c1 => exact fun h => ⟨(HM.out.nil h).1, (HM.out.nil h).1⟩); (case c3 => exact (((HM.out.alloc _).alloc _).alloc _).holds); (case c4 => exact (Blk.new2 w _ _ #[.int .i64 id, .int .i64 (idx xs arg : Int)] _).news); (case c5 => intro u hu; simp at hu; rcases hu with rfl | rfl <;> rfl); (case c7 => unfold maxLen; omega); (case c8 => omega); intro v' w1 hown hgrow; obtain ⟨M', d', hv, hs', hbase⟩ := Sl.of_own hown; rw [hv]; have HOW := Lib.hid (hv ▸ hown); simp only [World.size_alloc] at hbase; have hn1 : Hid (∀ b o, M' = some ⟨b, o, none⟩ → b ≠ w.heap.size) := Lib.hid (fun b o h => by have := hbase b o h; omega); have hnw : Hid (Nw w.heap.size M' M) := Lib.hid (fun b o h => .inr (by have := hbase b o h; omega)); have hn2 : Hid (∀ b o, M' = some ⟨b, o, none⟩ → b ≠ w.heap.size + 1) := Lib.hid (fun b o h => by have := hbase b o h; omega); have hu := grown_none hgrow; have HS' := Lib.hid hs'; have HU := Lib.hid (((((Upd.refl (fun _ => False) w).alloc _).alloc _).alloc _).trans hu (fun _ h => h.elim)); have bx : Blk w1 w.heap.size 40 #[.slice A xs.length c, .slice M ms.length d] := (((Blk.new w _ _).alloc _).alloc _).upd hu (fun h => h); have bz : Blk w1 (w.heap.size + 1) 40 #[.slice none 0 0, .slice none 0 0] := ((Blk.new1 w _ _ _).alloc _).upd hu (fun h => h); have cx := bx.cell; have fx := bx.frz; have cz := bz.cell; have fz := bz.frz; have hlt := bz.lt; clear hown hgrow hv hs' hu bx bz hbase)
  refine bodyPost_ret (v := .tuple #[.agg #[.slice A xs.length c, .slice M' (ms.length + 1) d'], .bool true]) (by simp [results, Try.results21, go_sem, cx, cz, hlt]) rfl ⟨M', d', rfl, ?_, hnw.out, ⟨_, ?_, by rw [prs_app]; exact own_far (own_far (own_far HOW.out (own_nb HOW.out hn1.out) _) (own_nb HOW.out hn2.out) _) (own_nb HOW.out hn2.out) _⟩, ?_⟩
  · rw [prs_app]
    exact ((HS'.out.far hn1.out _).far hn2.out _).far hn2.out _
  · simp
    omega
  · exact (((HU.out.set (.inr (Nat.le_refl _)) _).set (.inr (Nat.le_succ _)) _).set (.inr (Nat.le_succ _)) _).below0

theorem lt_of_room {n : Nat} {most : Int} (h : ¬ most ≤ (n : Int)) : decide ((n : Int) ≥ most) = false := by simpa using h
set_option maxHeartbeats 1000000 in
theorem add_full (A M : Option Addr) (c d : Nat) (xs : List Int) (ms : List (Int × Int)) (id arg most : Int) (hi : ¬ idx xs arg < xs.length) (hmo : most ≤ (xs.length : Int)) (hx : xs.length ≤ 1000) (hml : ms.length ≤ 1000) (w : World) (ha : Sl w A xs.length c (nums xs)) :
    Calls Try.prog 21 #[.agg #[.slice A xs.length c, .slice M ms.length d], .int .i64 id, .int .i64 arg, .int .i64 most] w fun e w' =>
      e = .returned (.tuple #[.agg #[.slice A xs.length c, .slice M ms.length d], .bool false]) ∧ Below w.heap.size w w' := by
  have hle1 := ha.le
  have HA := Lib.hid ha
  have HI : Hid (sidx xs arg = -1) := by show sidx xs arg = _; unfold sidx; rw [if_neg hi]
  have HF : Hid (decide ((xs.length : Int) ≥ most) = true) := by show _ = _; simpa using hmo
  clear ha hi hmo
  go_enter Try.func21, Try.ntmps21
  go_wp2_with fail
  refine (index_to HI.out _ ((HA.out.alloc _).alloc _)).mono ?_
  rintro e w' ⟨rfl, rfl⟩
  go_wp2_with fail
  refine (full_to HF.out (by omega) _).mono ?_
  rintro e w1 ⟨rfl, hb⟩
  have bx : Blk w1 w.heap.size 40 #[.slice A xs.length c, .slice M ms.length d] := ((Blk.new w _ _).alloc _).upd (Upd.of_below hb (fun _ => False)) (fun h => h)
  have bz : Blk w1 (w.heap.size + 1) 40 #[.slice none 0 0, .slice none 0 0] := (Blk.new1 w _ _ _).upd (Upd.of_below hb (fun _ => False)) (fun h => h)
  have cx := bx.cell
  have cz := bz.cell
  have fz := bz.frz
  have hlt := bz.lt
  have HU := Lib.hid ((((Upd.refl (fun _ => False) w).alloc _).alloc _).trans (Upd.of_below hb (fun _ => False)) (fun _ h => h.elim))
  clear bx bz hb
  go_wp2_with fail
  refine bodyPost_ret (v := .tuple #[.agg #[.slice A xs.length c, .slice M ms.length d], .bool false]) (by simp [results, Try.results21, go_sem, cx, cz, hlt]) rfl ⟨rfl, ?_⟩
  exact ((HU.out.set (.inr (Nat.le_succ _)) _).set (.inr (Nat.le_succ _)) _).below0

set_option maxHeartbeats 2000000 in
theorem add_new (A M : Option Addr) (c d : Nat) (xs : List Int) (ms : List (Int × Int)) (id arg most : Int) (hi : ¬ idx xs arg < xs.length) (hmo : ¬ most ≤ (xs.length : Int)) (hx : xs.length ≤ 1000) (hml : ms.length ≤ 1000) (w : World) (ha : Sl w A xs.length c (nums xs)) (hm : Sl w M ms.length d (prs ms)) :
    Calls Try.prog 21 #[.agg #[.slice A xs.length c, .slice M ms.length d], .int .i64 id, .int .i64 arg, .int .i64 most] w fun e w' => ∃ A' c' M' d',
      e = .returned (.tuple #[.agg #[.slice A' (xs.length + 1) c', .slice M' (ms.length + 1) d'], .bool true]) ∧ Sl w' A' (xs.length + 1) c' (nums (xs ++ [arg])) ∧ Sl w' M' (ms.length + 1) d' (prs (ms ++ [(id, (xs.length : Int))])) ∧ Nw w.heap.size A' A ∧ Nw w.heap.size M' M ∧ (∃ ob, w.heap.size ≤ ob ∧ w'.ownsRow ob 3 1 (.slice A' (xs.length + 1) c') (xs.length + 1) (nums (xs ++ [arg]))) ∧ (∃ ob, w.heap.size ≤ ob ∧ w'.ownsRow ob 58 2 (.slice M' (ms.length + 1) d') (ms.length + 1) (prs (ms ++ [(id, (xs.length : Int))]))) ∧ Below w.heap.size w w' := by
  have hle1 := ha.le
  have hle2 := hm.le
  have hcm1 := ha.cm
  have hcm2 := hm.cm
  unfold maxLen at hcm1 hcm2
  have HA := Lib.hid ha
  have HM := Lib.hid hm
  have HI : Hid (sidx xs arg = -1) := by show sidx xs arg = _; unfold sidx; rw [if_neg hi]
  have HF : Hid (decide ((xs.length : Int) ≥ most) = false) := lt_of_room hmo
  obtain ⟨i0, hj, hz0, hz1, hz2⟩ := info_parts infoM
  obtain ⟨k0, kj, kz0, kz1, kz2⟩ := info_parts infoI
  clear ha hm hi hmo
  go_enter Try.func21, Try.ntmps21
  go_wp2_with fail
  refine (index_to HI.out _ ((HA.out.alloc _).alloc _)).mono ?_
  rintro e w' ⟨rfl, rfl⟩
  go_wp2_with fail
  refine (full_to HF.out (by omega) _).mono ?_
  rintro e w1 ⟨rfl, hb⟩
  have bx : Blk w1 w.heap.size 40 #[.slice A xs.length c, .slice M ms.length d] := ((Blk.new w _ _).alloc _).upd (Upd.of_below hb (fun _ => False)) (fun h => h)
  have bz : Blk w1 (w.heap.size + 1) 40 #[.slice none 0 0, .slice none 0 0] := (Blk.new1 w _ _ _).upd (Upd.of_below hb (fun _ => False)) (fun h => h)
  have cx := bx.cell
  have fx := bx.frz
  have hlt := bz.lt
  have HU1 := Lib.hid ((((Upd.refl (fun _ => False) w).alloc _).alloc _).trans (Upd.of_below hb (fun _ => False)) (fun _ h => h.elim))
  have BX := Lib.hid bx
  have BZ := Lib.hid bz
  clear bx bz hb
  go_wp2_with (first | (at_builtin; refine wpList_append_grows _ rfl _ _ 27 rfl 3 k0 (.int .i64 0) 1 8 Try.underlying27 kj kz0 kz1 kz2 rfl (by decide) A xs.length xs.length (nums xs) rfl ?a1 (by rw [nums_len]; omega) ?a3 ⟨w1.heap.size, 0, none⟩ 1 1 [.int .i64 arg] rfl rfl ?a4 ?a5 (by omega) ?a7 ?a8 ?_; (case a1 => exact fun h => ⟨(HA.out.nil h).1, (HA.out.nil h).1⟩); (case a3 => exact (HA.out.below (HU1.out.alloc _).below0).holds); (case a4 => exact (Blk.new w1 #[.int .i64 arg] _).news); (case a5 => intro u hu; simp at hu; subst hu; rfl); (case a7 => unfold maxLen; omega); (case a8 => omega); intro v' w2 hown hgrow; obtain ⟨A', c', hv, hs', hbase⟩ := Sl.of_own hown; rw [hv]; have HOA := Lib.hid (hv ▸ hown); have hu := grown_none hgrow; have HS' := Lib.hid hs'; have HU2 := Lib.hid ((HU1.out.alloc _).trans hu (fun _ h => h.elim)); have bx : Blk w2 w.heap.size 40 #[.slice A xs.length c, .slice M ms.length d] := (BX.out.alloc _).upd hu (fun h => h); have bz : Blk w2 (w.heap.size + 1) 40 #[.slice none 0 0, .slice none 0 0] := (BZ.out.alloc _).upd hu (fun h => h); have cx2 := bx.cell; have fx2 := bx.frz; have hlt2 := bz.lt; have BZ2 := Lib.hid bz; have BX2 := Lib.hid (bx.set 0 (.slice A' (xs.length + 1) c')); have hnw : Hid (Nw w.heap.size A' A) := Lib.hid (fun b o h => .inr (by have := hbase b o h; simp only [World.size_alloc] at this; omega)); have hn1 : Hid (∀ b o, A' = some ⟨b, o, none⟩ → b ≠ w.heap.size) := Lib.hid (fun b o h => by have := hbase b o h; simp only [World.size_alloc] at this; omega); have hn2 : Hid (∀ b o, A' = some ⟨b, o, none⟩ → b ≠ w.heap.size + 1) := Lib.hid (fun b o h => by have := hbase b o h; simp only [World.size_alloc] at this; omega); clear hown hgrow hv hs' hu bx bz hbase cx fx) | (at_builtin; go_must (refine wpList_append_grows _ rfl _ _ 38 rfl 58 i0 (.agg #[.int .i64 0, .int .i64 0]) 2 16 Try.underlying38 hj hz0 hz1 hz2 rfl (by decide) M ms.length ms.length (prs ms) rfl ?c1 (prs_len ms) ?c3 ⟨w2.heap.size, 0, none⟩ 1 1 [.int .i64 id, .int .i64 (xs.length : Int)] rfl rfl ?c4 ?c5 (by omega) ?c7 ?c8 ?_; (case c1 => exact fun h => ⟨(HM.out.nil h).1, (HM.out.nil h).1⟩); (case c3 => exact (HM.out.below (((HU2.out.set (p := ⟨w.heap.size, 0, none⟩) (.inr (Nat.le_refl _)) (.slice A' (xs.length + 1) c')).alloc _).below0)).holds); (case c4 => exact (Blk.newS w2 ⟨w.heap.size, 0, none⟩ (.slice A' (xs.length + 1) c') #[.int .i64 id, .int .i64 (xs.length : Int)] _).news); (case c5 => intro u hu; simp at hu; rcases hu with rfl | rfl <;> rfl); (case c7 => unfold maxLen; omega); (case c8 => omega); intro v2 w3 hown hgrow; obtain ⟨M', d', hv, hs', hbase⟩ := Sl.of_own hown; rw [hv]; have HOM := Lib.hid (hv ▸ hown); have hu := grown_none hgrow; have HS2 := Lib.hid hs'; have HU3 := Lib.hid ((((HU2.out.set (p := ⟨w.heap.size, 0, none⟩) (.inr (Nat.le_refl _)) (.slice A' (xs.length + 1) c')).alloc _).trans hu (fun _ h => h.elim))); have HOB := Lib.hid (own_upd0 (own_alloc (own_far (p := ⟨w.heap.size, 0, none⟩) HOA.out (own_nb HOA.out hn1.out) (.slice A' (xs.length + 1) c')) _) hu); have HSA := Lib.hid (((HS'.out.far (p := ⟨w.heap.size, 0, none⟩) hn1.out (.slice A' (xs.length + 1) c')).alloc _).upd0 hu); have bx : Blk w3 w.heap.size 40 #[.slice A' (xs.length + 1) c', .slice M ms.length d] := (BX2.out.alloc _).upd hu (fun h => h); have bz : Blk w3 (w.heap.size + 1) 40 #[.slice none 0 0, .slice none 0 0] := ((BZ2.out.far (p := ⟨w.heap.size, 0, none⟩) (show w.heap.size + 1 ≠ w.heap.size from Nat.succ_ne_self _) (.slice A' (xs.length + 1) c')).alloc _).upd hu (fun h => h); have cx3 := bx.cell; have fx3 := bx.frz; have cz3 := bz.cell; have fz3 := bz.frz; have hlt3 := bz.lt; have hmw : Hid (Nw w.heap.size M' M) := Lib.hid (fun b o h => .inr (by have := hbase b o h; simp only [World.size_alloc, World.size_setCell] at this; omega)); have hm1 : Hid (∀ b o, M' = some ⟨b, o, none⟩ → b ≠ w.heap.size) := Lib.hid (fun b o h => by have := hbase b o h; simp only [World.size_alloc, World.size_setCell] at this; omega); have hm2 : Hid (∀ b o, M' = some ⟨b, o, none⟩ → b ≠ w.heap.size + 1) := Lib.hid (fun b o h => by have := hbase b o h; simp only [World.size_alloc, World.size_setCell] at this; omega); clear hown hgrow hv hs' hu bx bz hbase cx2 fx2)))
  refine bodyPost_ret (v := .tuple #[.agg #[.slice A' (xs.length + 1) c', .slice M' (ms.length + 1) d'], .bool true]) (by simp [results, Try.results21, go_sem, cx3, cz3, hlt3]) rfl ⟨A', c', M', d', rfl, ?_, ?_, hnw.out, hmw.out, ⟨_, ?_, by rw [nums_app]; exact own_far (own_far (own_far HOB.out (own_nb HOB.out hn1.out) _) (own_nb HOB.out hn2.out) _) (own_nb HOB.out hn2.out) _⟩, ⟨_, ?_, by rw [prs_app]; exact own_far (own_far (own_far HOM.out (own_nb HOM.out hm1.out) _) (own_nb HOM.out hm2.out) _) (own_nb HOM.out hm2.out) _⟩, ?_⟩
  · rw [nums_app]
    exact ((HSA.out.far hn1.out _).far hn2.out _).far hn2.out _
  · rw [prs_app]
    exact ((HS2.out.far hm1.out _).far hm2.out _).far hm2.out _
  · have := HU1.out.size
    simp
    omega
  · have := HU2.out.size
    simp
    omega
  · exact (((HU3.out.set (.inr (Nat.le_refl _)) _).set (.inr (Nat.le_succ _)) _).set (.inr (Nat.le_succ _)) _).below0

/-- One more, whatever comes of it. -/
theorem add_to {A M : Option Addr} {c d : Nat} {xs xs' : List Int} {ms ms' : List (Int × Int)} {id arg most : Int} {ok : Bool} {n m n' m' : Nat} (hb : badd xs ms id arg most = (xs', ms', ok)) (hn : xs.length = n) (hm : ms.length = m) (hn' : xs'.length = n') (hm' : ms'.length = m') (hx : n ≤ 1000) (hml : m ≤ 1000) (w : World) (ha : Sl w A n c (nums xs)) (hmm : Sl w M m d (prs ms)) :
    Calls Try.prog 21 #[.agg #[.slice A n c, .slice M m d], .int .i64 id, .int .i64 arg, .int .i64 most] w fun e w' => ∃ A' c' M' d',
      e = .returned (.tuple #[.agg #[.slice A' n' c', .slice M' m' d'], .bool ok]) ∧ Sl w' A' n' c' (nums xs') ∧ Sl w' M' m' d' (prs ms') ∧ Nw w.heap.size A' A ∧ Nw w.heap.size M' M ∧ Below w.heap.size w w' := by
  subst hn hm hn' hm'
  unfold badd at hb
  by_cases h1 : idx xs arg < xs.length
  · rw [if_pos h1] at hb
    simp only [Prod.mk.injEq] at hb
    obtain ⟨rfl, rfl, rfl⟩ := hb
    refine (add_there A M c d xs ms id arg most h1 hx hml w ha hmm).mono ?_
    rintro e w' ⟨M', d', rfl, hs, hn, _, hd⟩
    exact ⟨A, c, M', d', by simp, ha.below hd, by simpa using hs, Nw.refl _ _, hn, hd⟩
  · rw [if_neg h1] at hb
    by_cases h2 : most ≤ (xs.length : Int)
    · rw [if_pos h2] at hb
      simp only [Prod.mk.injEq] at hb
      obtain ⟨rfl, rfl, rfl⟩ := hb
      refine (add_full A M c d xs ms id arg most h1 h2 hx hml w ha).mono ?_
      rintro e w' ⟨rfl, hd⟩
      exact ⟨A, c, M, d, rfl, ha.below hd, hmm.below hd, Nw.refl _ _, Nw.refl _ _, hd⟩
    · rw [if_neg h2] at hb
      simp only [Prod.mk.injEq] at hb
      obtain ⟨rfl, rfl, rfl⟩ := hb
      refine (add_new A M c d xs ms id arg most h1 h2 hx hml w ha hmm).mono ?_
      rintro e w' ⟨A', c', M', d', rfl, hs, hs2, hn1, hn2, _, _, hd⟩
      exact ⟨A', c', M', d', by simp, by simpa using hs, by simpa using hs2, hn1, hn2, hd⟩
/-- One more: and what the new slices are. -/
def AOwn (w w' : World) (A M A' M' : Option Addr) (n m c c' d d' n' m' : Nat) (xs' : List Int) (ms' : List (Int × Int)) : Prop :=
  ((A' = A ∧ c' = c ∧ n' = n) ∨ ∃ ob, w.heap.size ≤ ob ∧ w'.ownsRow ob 3 1 (.slice A' n' c') n' (nums xs')) ∧ ((M' = M ∧ d' = d ∧ m' = m) ∨ ∃ ob, w.heap.size ≤ ob ∧ w'.ownsRow ob 58 2 (.slice M' m' d') m' (prs ms'))
theorem add_own {A M : Option Addr} {c d : Nat} {xs xs' : List Int} {ms ms' : List (Int × Int)} {id arg most : Int} {ok : Bool} {n m n' m' : Nat} (hb : badd xs ms id arg most = (xs', ms', ok)) (hn : xs.length = n) (hm : ms.length = m) (hn' : xs'.length = n') (hm' : ms'.length = m') (hx : n ≤ 1000) (hml : m ≤ 1000) (w : World) (ha : Sl w A n c (nums xs)) (hmm : Sl w M m d (prs ms)) :
    Calls Try.prog 21 #[.agg #[.slice A n c, .slice M m d], .int .i64 id, .int .i64 arg, .int .i64 most] w fun e w' => ∃ A' c' M' d',
      e = .returned (.tuple #[.agg #[.slice A' n' c', .slice M' m' d'], .bool ok]) ∧ Sl w' A' n' c' (nums xs') ∧ Sl w' M' m' d' (prs ms') ∧ AOwn w w' A M A' M' n m c c' d d' n' m' xs' ms' ∧ Below w.heap.size w w' := by
  subst hn hm hn' hm'
  unfold badd at hb
  by_cases h1 : idx xs arg < xs.length
  · rw [if_pos h1] at hb
    simp only [Prod.mk.injEq] at hb
    obtain ⟨rfl, rfl, rfl⟩ := hb
    refine (add_there A M c d xs ms id arg most h1 hx hml w ha hmm).mono ?_
    rintro e w' ⟨M', d', rfl, hs, hn, ho, hd⟩
    exact ⟨A, c, M', d', by simp, ha.below hd, by simpa using hs, ⟨.inl ⟨rfl, rfl, rfl⟩, .inr (by simpa using ho)⟩, hd⟩
  · rw [if_neg h1] at hb
    by_cases h2 : most ≤ (xs.length : Int)
    · rw [if_pos h2] at hb
      simp only [Prod.mk.injEq] at hb
      obtain ⟨rfl, rfl, rfl⟩ := hb
      refine (add_full A M c d xs ms id arg most h1 h2 hx hml w ha).mono ?_
      rintro e w' ⟨rfl, hd⟩
      exact ⟨A, c, M, d, rfl, ha.below hd, hmm.below hd, ⟨.inl ⟨rfl, rfl, rfl⟩, .inl ⟨rfl, rfl, rfl⟩⟩, hd⟩
    · rw [if_neg h2] at hb
      simp only [Prod.mk.injEq] at hb
      obtain ⟨rfl, rfl, rfl⟩ := hb
      refine (add_new A M c d xs ms id arg most h1 h2 hx hml w ha hmm).mono ?_
      rintro e w' ⟨A', c', M', d', rfl, hs, hs2, hn1, hn2, ho1, ho2, hd⟩
      exact ⟨A', c', M', d', by simp, by simpa using hs, by simpa using hs2, ⟨.inr (by simpa using ho1), .inr (by simpa using ho2)⟩, hd⟩
theorem lead_to {v : Value} {M : Option Addr} {m d : Nat} {ms : List (Int × Int)} {r : Int} (hm : ms.length = m) (hr : lead ms = r) (w : World) (hs : Sl w M m d (prs ms)) :
    Calls Try.prog 20 #[.agg #[v, .slice M m d]] w fun e w' => e = .returned (.int .i64 r) ∧ Below w.heap.size w w' := by
  subst hm hr
  exact lead_any v M d ms w hs
end Go.Proofs.Ytnpecnljibeddaa
