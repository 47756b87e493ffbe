/- Batches split. -/
import Derived.Test.YtdfnhbhcgkdplaaBu
import Derived.Test.YtdfnhbhcgkdplaaOw
import Derived.Test.YtdfnhbhcgkdplaaWLast
import Derived.Deep.AppendLies
namespace Go.Proofs.Ytdfnhbhcgkdplaa
open Go.RowKit Go.Proofs.YtdfnhbhcgkdplaaW.PrintLast
set_option linter.unusedVariables false
set_option linter.unusedSimpArgs false

theorem take_pr {ms : List (Int × Int)} {k : Nat} {m : Int × Int} (h : ms[k]? = some m) : prs (ms.take (k + 1)) = prs (ms.take k) ++ [.int .i64 m.1, .int .i64 m.2] := by
  rw [List.take_add_one, h, prs_app]
  rfl

/-- The value at a place. -/
def vat (vals : List Int) (i : Int) : Option Int := if 0 ≤ i then vals[i.toNat]? else none
theorem vat_some {vals : List Int} {i x : Int} (h : vat vals i = some x) : 0 ≤ i ∧ i < vals.length ∧ vals[i.toNat]? = some x := by
  unfold vat at h
  split at h
  · have := (List.getElem?_eq_some_iff.1 h).1
    exact ⟨by assumption, by omega, h⟩
  · cases h
theorem vat_none {vals : List Int} {i : Int} (h : vat vals i = none) : i < 0 ∨ (vals.length : Int) ≤ i := by
  unfold vat at h
  split at h
  · have := List.getElem?_eq_none_iff.1 h
    omega
  · omega
/-- Each member its value. -/
def psplit (vals : List Int) : List (Int × Int) → Option (List (Int × Int))
  | [] => some []
  | m :: ms => match vat vals m.2 with
    | none => none
    | some x => (psplit vals ms).map ((m.1, x) :: ·)
theorem psplit_len {vals : List Int} : ∀ {ms l : List (Int × Int)}, psplit vals ms = some l → l.length = ms.length
  | [], l, h => by simp [psplit] at h; subst h; rfl
  | m :: ms, l, h => by
    unfold psplit at h
    split at h
    · cases h
    · obtain ⟨l', h', rfl⟩ := Option.map_eq_some_iff.1 h
      simp [psplit_len h']
theorem psplit_snoc {vals : List Int} {m : Int × Int} {x : Int} (hx : vat vals m.2 = some x) : ∀ {ms l : List (Int × Int)}, psplit vals ms = some l → psplit vals (ms ++ [m]) = some (l ++ [(m.1, x)])
  | [], l, h => by simp [psplit] at h; subst h; simp [psplit, hx]
  | p :: ms, l, h => by
    unfold psplit at h
    split at h
    · cases h
    · rename_i y hy
      obtain ⟨l', h', rfl⟩ := Option.map_eq_some_iff.1 h
      have := psplit_snoc hx h'
      simp [psplit, hy, this]
theorem psplit_none {vals : List Int} {m : Int × Int} (hx : vat vals m.2 = none) : ∀ {ms : List (Int × Int)} {k : Nat}, ms[k]? = some m → psplit vals ms = none
  | [], k, h => by simp at h
  | p :: ms, 0, h => by simp at h; subst h; simp [psplit, hx]
  | p :: ms, k + 1, h => by
    have := psplit_none hx (ms := ms) (k := k) (by simpa using h)
    unfold psplit
    split
    · rfl
    · rw [this]; rfl
theorem infoP : (Try.prog.info? 43).map (fun i => (i.zero, i.size, i.bytes)) = some (some (.agg #[.int .i64 0, .int .i64 0]), 2, 16) := by kernel_rfl

/-- What Split hands back. -/
def SplitPost (n : Nat) (ms : List (Int × Int)) (vals : List Int) (w : World) (e : Ending) (w' : World) : Prop :=
  (∃ l A c, vals.length = n ∧ psplit vals ms = some l ∧ e = .returned (.tuple #[.slice A l.length c, .bool true]) ∧ Sl w' A l.length c (prs l) ∧ Below w.heap.size w w') ∨
  ((vals.length ≠ n ∨ psplit vals ms = none) ∧ e = .returned (.tuple #[.slice none 0 0, .bool false]) ∧ Below w.heap.size w w')

set_option maxRecDepth 100000 in
set_option maxHeartbeats 4000000 in
theorem split_any (A M V : Option Addr) (c d q n : Nat) (ms : List (Int × Int)) (vals : List Int) (hn : n ≤ 9223372036854775807) (hml : ms.length ≤ 1000) (w : World) (hm : Sl w M ms.length d (prs ms)) (hv : Sl w V vals.length q (nums vals)) :
    Calls Try.prog 14 #[.agg #[.slice A n c, .slice M ms.length d], .slice V vals.length q] w (SplitPost n ms vals w) := by
  have hle2 := hm.le
  have hcm2 := hm.cm
  have hvl : vals.length ≤ 9223372036854775807 := by have := hv.le; have := hv.cm; unfold maxLen at this; omega
  unfold maxLen at hcm2
  have HM := Lib.hid hm
  have HV := Lib.hid hv
  obtain ⟨i0, hj, hz0, hz1, hz2⟩ := info_parts infoP
  clear hm hv
  by_cases hne : vals.length = n
  · subst hne
    go_enter Try.func14, Try.ntmps14
    go_wp2_with fail
    go_loopw [6, 18] (fun l i wr => ∃ (k : Nat) (A' : Option Addr) (cap : Nat) (outs : List (Int × Int)), k ≤ ms.length ∧ l = .slice A' k cap ∧ i = .int .i64 k ∧ Hid (psplit vals (ms.take k) = some outs) ∧ Hid (wr.ownsRow (w.heap.size + 1) 43 2 (.slice A' k cap) k (prs outs)) ∧ Hid (Upd (fun _ => False) w wr) ∧ w.heap.size < wr.heap.size) (fun _ i _ => ms.length - (intOf i).toNat)
    case atStart =>
      exact ⟨0, none, 0, [], Nat.zero_le _, rfl, rfl, Lib.hid rfl, Lib.hid (own_nil _ _ _ _), Lib.hid (by repeat (first | exact Upd.refl _ _ | refine Upd.alloc ?_ _ | refine Upd.drew ?_ | refine Upd.drewN ?_ _ | refine Upd.put ?_ _ _)), by simp⟩
    case round =>
      obtain ⟨k, A', cap, outs, hk, rfl, rfl, hps, hown, hu, hsz⟩ := hrel
      by_cases hlt : k < ms.length
      · obtain ⟨m, hm⟩ : ∃ m, ms[k]? = some m := ⟨ms[k]'hlt, List.getElem?_eq_getElem _⟩
        obtain ⟨mb, mo, rfl, hmb, m0, m1⟩ := HM.out.pr hm
        have q0 := (hu.out.cellq (p := ⟨mb, mo + k * 2, none⟩) hmb (fun h => h)).trans m0
        have q1 := (hu.out.cellq (p := ⟨mb, mo + k * 2 + 1, none⟩) hmb (fun h => h)).trans m1
        cases hx : vat vals m.2 with
        | none =>
          have HN := Lib.hid (psplit_none hx hm)
          have hr := vat_none hx
          clear hm hx m0 m1
          by_cases hneg : m.2 < 0
          · clear hr
            go_wp2
            go_ret2
            exact .inr ⟨.inr HN.out, rfl, (hu.out.alloc _).below0⟩
          · have hge : (vals.length : Int) ≤ m.2 := by omega
            clear hr
            go_wp2
            go_ret2
            exact .inr ⟨.inr HN.out, rfl, (hu.out.alloc _).below0⟩
        | some x =>
          obtain ⟨g0, g1, g2⟩ := vat_some hx
          obtain ⟨vb, vo, rfl, hvb, v0⟩ := HV.out.num g2
          have p0 := (hu.out.cellq (p := ⟨vb, vo + m.2.toNat, none⟩) hvb (fun h => h)).trans v0
          have HS := Lib.hid (by rw [take_snoc hm]; exact psplit_snoc hx hps.out : psplit vals (ms.take (k + 1)) = some (outs ++ [(m.1, x)]))
          have ag : (Value.slice A' k cap).ownBlock ≠ some wr.heap.size := own_ltw hown.out (Nat.le_refl _)
          have av : (Value.slice A' k cap).ownBlock ≠ some vb := own_ne hown.out (by omega)
          have g0' := g0
          have hnn : ¬ m.2 < 0 := by omega
          have hnl : ¬ (vals.length : Int) ≤ m.2 := by omega
          clear hm hx m0 m1 g2 v0
          go_wp2_with fail
          have y0 : (wr.alloc (.cells #[.int .i64 m.1, .int .i64 m.2] 64)).cell? ⟨wr.heap.size, 0, none⟩ = some (.int .i64 m.1) := (Blk.new wr _ _).cell 0
          have y1 : (wr.alloc (.cells #[.int .i64 m.1, .int .i64 m.2] 64)).cell? ⟨wr.heap.size, 1, none⟩ = some (.int .i64 m.2) := (Blk.new wr _ _).cell 1
          have y2 := held_alloc p0 (.cells #[.int .i64 m.1, .int .i64 m.2] 64)
          refine start_ (n := 12) (S := fun w' => w'.cell? ⟨wr.heap.size, 0, none⟩ = some (.int .i64 m.1) ∧ w'.cell? ⟨wr.heap.size, 1, none⟩ = some (.int .i64 m.2) ∧ w'.cell? ⟨vb, vo + m.2.toNat, none⟩ = some (.int .i64 x)) (ds := [10]) #[false, false, false, false, false, false, false, false, false, false, false, false] (by kernel_rfl) rfl rfl ⟨y0, y1, y2⟩ (fun hHeld => ?_)
          refine pure_ (i := 0) (N := some 32) (v := ?_) (a' := ?_) #[true, false, false, false, false, false, false, false, false, false, false, false] rfl rfl (by kernel_rfl) (fun _ _ _ h => h) (Or.inl ⟨by rfl, ?_⟩) ?_ ?_
          rotate_left
          · intro w'
            go_simp
            with_reducible rfl
          rotate_left
          · simp only [Act.put, List.setIfInBounds_toArray, List.set_cons_zero, List.set_cons_succ, i64_w, i32_w]
            rfl
          refine pure_ (i := 1) (N := some 33) (v := ?_) (a' := ?_) #[true, true, false, false, false, false, false, false, false, false, false, false] rfl rfl (by kernel_rfl) (fun _ _ _ h => h) (Or.inl ⟨by rfl, ?_⟩) ?_ ?_
          rotate_left
          · intro w'
            go_simp
            with_reducible rfl
          rotate_left
          · simp only [Act.put, List.setIfInBounds_toArray, List.set_cons_zero, List.set_cons_succ, i64_w, i32_w]
            rfl
          refine pure_ (i := 3) (N := some 35) (v := ?_) (a' := ?_) #[true, true, false, true, false, false, false, false, false, false, false, false] rfl rfl (by kernel_rfl) (fun _ _ _ h => h) (Or.inl ⟨by rfl, ?_⟩) ?_ ?_
          rotate_left
          · intro w'
            go_simp
            with_reducible rfl
          rotate_left
          · simp only [Act.put, List.setIfInBounds_toArray, List.set_cons_zero, List.set_cons_succ, i64_w, i32_w]
            rfl
          refine pure_ (i := 4) (N := some 36) (v := ?_) (a' := ?_) #[true, true, false, true, true, false, false, false, false, false, false, false] rfl rfl (by kernel_rfl) (fun _ _ _ h => h) (Or.inl ⟨by rfl, ?_⟩) ?_ ?_
          rotate_left
          · intro w'
            go_simp
            with_reducible rfl
          rotate_left
          · simp only [Act.put, List.setIfInBounds_toArray, List.set_cons_zero, List.set_cons_succ, i64_w, i32_w]
            rfl
          refine take_ (i := 2) (N := some 34) (v := ?_) (a' := ?_) #[true, true, true, true, true, false, false, false, false, false, false, false] rfl rfl (by kernel_rfl) (fun _ _ _ h => h) (Or.inl ⟨by rfl, ?_⟩) hHeld ?_ ?_
          rotate_left
          · rintro w' ⟨s0, s1, s2⟩
            go_simp
            with_reducible rfl
          rotate_left
          · simp only [Act.put, List.setIfInBounds_toArray, List.set_cons_zero, List.set_cons_succ, i64_w, i32_w]
            rfl
          refine take_ (i := 5) (N := some 37) (v := ?_) (a' := ?_) #[true, true, true, true, true, true, false, false, false, false, false, false] rfl rfl (by kernel_rfl) (fun _ _ _ h => h) (Or.inl ⟨by rfl, ?_⟩) hHeld ?_ ?_
          rotate_left
          · rintro w' ⟨s0, s1, s2⟩
            go_simp
            with_reducible rfl
          rotate_left
          · simp only [Act.put, List.setIfInBounds_toArray, List.set_cons_zero, List.set_cons_succ, i64_w, i32_w]
            rfl
          refine pure_ (i := 6) (N := some 38) (v := ?_) (a' := ?_) #[true, true, true, true, true, true, true, false, false, false, false, false] rfl rfl (by kernel_rfl) (fun _ _ _ h => h) (Or.inl ⟨by rfl, ?_⟩) ?_ ?_
          rotate_left
          · intro w'
            go_simp
            with_reducible rfl
          rotate_left
          · simp only [Act.put, List.setIfInBounds_toArray, List.set_cons_zero, List.set_cons_succ, i64_w, i32_w]
            rfl
          refine take_ (i := 7) (N := some 39) (v := ?_) (a' := ?_) #[true, true, true, true, true, true, true, true, false, false, false, false] rfl rfl (by kernel_rfl) (fun _ _ _ h => h) (Or.inl ⟨by rfl, ?_⟩) hHeld ?_ ?_
          rotate_left
          · rintro w' ⟨s0, s1, s2⟩
            go_simp
            with_reducible rfl
          rotate_left
          · simp only [Act.put, List.setIfInBounds_toArray, List.set_cons_zero, List.set_cons_succ, i64_w, i32_w]
            rfl
          refine pure_ (i := 8) (N := some 40) (v := ?_) (a' := ?_) #[true, true, true, true, true, true, true, true, true, false, false, false] rfl rfl (by kernel_rfl) (fun _ _ _ h => h) (Or.inl ⟨by rfl, ?_⟩) ?_ ?_
          rotate_left
          · intro w'
            go_simp
            with_reducible rfl
          rotate_left
          · simp only [Act.put, List.setIfInBounds_toArray, List.set_cons_zero, List.set_cons_succ, i64_w, i32_w]
            rfl
          refine one_ (i := 9) (N := some 41) #[true, true, true, true, true, true, true, true, true, true, false, false] rfl rfl (by kernel_rfl) (by decide) (fun K hK => ?_)
          refine value_ (w1 := ?_) (v := ?_) (by rfl) rfl ?_ ?_
          rotate_left 2
          · go_simp
            constructor
            · rfl
            · rfl
          refine hK.out _ _ ⟨held_alloc hHeld.1 _, held_alloc hHeld.2.1 _, held_alloc hHeld.2.2 _⟩ (fun hHeld => ?_)
          clear hK K
          refine norm_ (a' := ?_) ?_ ?_
          rotate_left
          · show Act.put _ (some 41) _ = _
            simp only [Act.put, List.setIfInBounds_toArray, List.set_cons_zero, List.set_cons_succ, i64_w, i32_w]
            rfl
          refine last_ (i := 10) (N := some 42) #[true, true, true, true, true, true, true, true, true, true, true, false] rfl rfl (by kernel_rfl) (by decide) (fun K hK => ?_)
          refine step_append_lies _ (by rfl) _ _ _ (by rfl) (w.heap.size + 1) 43 i0 _ 2 16 Try.underlying37 hj hz0 hz1 hz2 rfl (by omega) (.slice A' k cap) k (prs outs) (by rfl) ((((hown.out.alloc _).alloc _)).drew) ⟨wr.heap.size + 1, 0, none⟩ 1 1 [.int .i64 m.1, .int .i64 x] (by rfl) (by rfl) (World.news_of_block (cs := #[.int .i64 m.1, .int .i64 x]) (t := 43) (fr := (0, 0)) (Blk.new1 wr _ _ _)) (by simp [Value.oneCell']) (by omega) (by unfold maxLen; omega) (by omega) (by simp; omega) (wr.heap.size + 1 + 1) (by simp) ?_
          intro gg cp w1 hown1 hgrow hat hlt1
          refine hK.out _ _ ?_
          clear hK K
          refine norm_ (a' := ?_) ?_ ?_
          rotate_left
          · show Act.put _ (some 42) _ = _
            simp only [Act.put, List.setIfInBounds_toArray, List.set_cons_zero, List.set_cons_succ, i64_w, i32_w]
            rfl
          refine pure_ (i := 11) (N := some 6) (v := ?_) (a' := ?_) #[true, true, true, true, true, true, true, true, true, true, true, true] rfl rfl (by kernel_rfl) (fun _ _ _ h => h) (Or.inl ⟨by rfl, ?_⟩) ?_ ?_
          rotate_left
          · intro w'
            go_simp
            with_reducible rfl
          rotate_left
          · simp only [Act.put, List.setIfInBounds_toArray, List.set_cons_zero, List.set_cons_succ, i64_w, i32_w]
            rfl
          refine done_ (by kernel_rfl) ?_
          have HU1 : Hid (Upd (fun _ => False) w w1) := (((hu.out.alloc (.cells #[.int .i64 m.1, .int .i64 m.2] 64)).alloc (.cells #[.int .i64 m.1, .int .i64 x] 43)).drew).trans (Upd.of_grown hgrow) (fun i h => .inr (Nat.le_trans (by omega) (own_ge hown.out h)))
          have HO : Hid (w1.ownsRow (w.heap.size + 1) 43 2 (.slice (some ⟨gg, 0, none⟩) (k + 1) cp) (k + 1) (prs (outs ++ [(m.1, x)]))) := by rw [prs_app]; exact hown1
          have hs1 : w.heap.size < w1.heap.size := by have := hgrow.size; simp at this; omega
          clear hown1 hat hgrow
          go_wp2
          go_roundw
          case rel => exact ⟨k + 1, some ⟨gg, 0, none⟩, cp, _, by omega, rfl, by go_num, HS, HO, HU1, hs1⟩
          case measure => simp [intOf]; omega
      · have hkl : k = ms.length := by omega
        subst hkl
        have HPS : Hid (psplit vals ms = some outs) := by have h := hps.out; rwa [List.take_length] at h
        have hlen := psplit_len HPS.out
        have HL := Lib.hid hlen
        clear hlen
        go_wp2
        go_ret2
        obtain ⟨A2, c2, e, hs, _⟩ := Sl.of_own hown.out
        injection e with e1 e2 e3
        subst e1
        subst e3
        exact .inl ⟨outs, A', cap, rfl, HPS.out, (by rw [HL.out]; rfl), by rw [HL.out]; exact hs, hu.out.below0⟩
  · have hb : ((vals.length : Int) != (n : Int)) = true := by simp; omega
    have hN := Lib.hid hne
    clear hne
    go_enter Try.func14, Try.ntmps14
    go_wp2
    go_ret2
    exact .inr ⟨.inl hN.out, rfl, (by refine Upd.below0 ?_; repeat (first | exact Upd.refl _ _ | refine Upd.alloc ?_ _ | refine Upd.drew ?_ | refine Upd.drewN ?_ _))⟩

theorem split_to {A M V : Option Addr} {c d q n m v l : Nat} {ms ps : List (Int × Int)} {vals : List Int} (hm : ms.length = m) (hv : vals.length = v) (hl : ps.length = l) (hvn : v = n) (hp : psplit vals ms = some ps) (hn : n ≤ 9223372036854775807) (hml : m ≤ 1000) (w : World) (hsm : Sl w M m d (prs ms)) (hsv : Sl w V v q (nums vals)) :
    Calls Try.prog 14 #[.agg #[.slice A n c, .slice M m d], .slice V v q] w fun e w' => ∃ A' c', e = .returned (.tuple #[.slice A' l c', .bool true]) ∧ Sl w' A' l c' (prs ps) ∧ Below w.heap.size w w' := by
  subst hm hv hl
  refine (split_any A M V c d q n ms vals hn hml w hsm hsv).mono ?_
  rintro e w' (⟨l, A', c', _, h2, rfl, h3, h4⟩ | ⟨h1, _⟩)
  · rw [hp] at h2
    injection h2 with h2
    subst h2
    exact ⟨A', c', rfl, h3, h4⟩
  · rcases h1 with h1 | h1
    · exact absurd hvn h1
    · rw [hp] at h1; cases h1
end Go.Proofs.Ytdfnhbhcgkdplaa
