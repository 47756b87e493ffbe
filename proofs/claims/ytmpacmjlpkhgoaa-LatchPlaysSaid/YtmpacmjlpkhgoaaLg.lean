/- A log, and what is emitted into it. -/
import Derived.Test.YtmpacmjlpkhgoaaLm
import Derived.Test.YtmpacmjlpkhgoaaIvs
namespace Go.Proofs.Ytmpacmjlpkhgoaa
open Go.RowKit
open Go.Maps (Keyed IsMap Tidy)
set_option linter.unusedVariables false
set_option linter.unusedSimpArgs false

/-- What a log is in memory: the pointer's block, the row of outcomes, the places' map; F: where it lies. -/
structure LogAt (w : World) (g base : Nat) (F : Nat → Prop) (v : Value) (bm n : Nat) (D : DataW Value) (L : List O5) : Prop where
  blk : Blk w g 45 #[v, .map (some bm)]
  row : w.ownsRow base 29 5 v L.length (fl o5 L)
  map : Mp w Try.prog 3 bm n D
  le : n ≤ L.length
  at_ : ∀ id, (Lit.int .i64 id).wf = true → mat D (.int .i64 id) = (lix L id).map (fun i : Nat => Value.int .i64 i)
  fg : F g
  fm : F bm
  fv : ∀ k, v.ownBlock = some k → F k
  ge : ∀ k, F k → base ≤ k ∧ k < w.heap.size
/-- A log that holds L. -/
def Log (w : World) (g base : Nat) (F : Nat → Prop) (L : List O5) : Prop := ∃ v bm n D, LogAt w g base F v bm n D L
theorem LogAt.upd {w w' : World} {g base : Nat} {F S : Nat → Prop} {v : Value} {bm n : Nat} {D : DataW Value} {L : List O5} (h : LogAt w g base F v bm n D L) (hu : Upd S w w') (hn : ∀ k, F k → ¬ S k) : LogAt w' g base F v bm n D L :=
  ⟨h.blk.upd hu (hn _ h.fg), own_upd h.row hu (fun b hb => hn _ (h.fv b hb)), h.map.upd hu (hn _ h.fm), h.le, h.at_, h.fg, h.fm, h.fv, fun k hk => ⟨(h.ge k hk).1, Nat.lt_of_lt_of_le (h.ge k hk).2 hu.size⟩⟩
theorem Log.upd {w w' : World} {g base : Nat} {F S : Nat → Prop} {L : List O5} (h : Log w g base F L) (hu : Upd S w w') (hn : ∀ k, F k → ¬ S k) : Log w' g base F L := by
  obtain ⟨v, bm, n, D, h⟩ := h
  exact ⟨v, bm, n, D, h.upd hu hn⟩
theorem Log.upd0 {w w' : World} {g base : Nat} {F : Nat → Prop} {L : List O5} (h : Log w g base F L) (hu : Upd (fun _ => False) w w') : Log w' g base F L := h.upd hu (fun _ _ h => h)
theorem Log.ge {w : World} {g base : Nat} {F : Nat → Prop} {L : List O5} (h : Log w g base F L) : ∀ k, F k → base ≤ k ∧ k < w.heap.size := by
  obtain ⟨v, bm, n, D, h⟩ := h
  exact h.ge
/-- Where a log lies that has grown. -/
def Gr (F : Nat → Prop) (w w' : World) : Nat → Prop := fun k => F k ∨ (w.heap.size ≤ k ∧ k < w'.heap.size)

theorem new_any (w : World) : Calls Try.prog 10 #[] w fun e w' => ∃ g F, e = .returned (.pointer (some ⟨g, 0, none⟩)) ∧ Log w' g w.heap.size F [] ∧ Below w.heap.size w w' := by
  have hmm := @run_makeMap Try.prog
  go_enter Try.func10, Try.ntmps10
  go_wp2
  go_ret
  refine ⟨w.heap.size + 1, fun k => k = w.heap.size ∨ k = w.heap.size + 1, rfl, ⟨.slice none 0 0, w.heap.size, 0, .map [], ?_⟩, (by refine Upd.below0 ?_; repeat (first | exact Upd.refl _ _ | refine Upd.alloc ?_ _ | refine Upd.drew ?_ | refine Upd.drewN ?_ _))⟩
  refine ⟨Blk.new1 w _ _ _, own_nil _ _ _ _, (Mp.made w _ _).alloc _, Nat.le_refl _, fun id _ => by rw [mat_empty]; rfl, .inr rfl, .inl rfl, fun k hk => by simp [Value.ownBlock] at hk, fun k hk => ?_⟩
  simp
  omega

set_option maxHeartbeats 1000000 in
theorem of_any (g base : Nat) (F : Nat → Prop) (L : List O5) (id : Int) (hid : (Lit.int .i64 id).wf = true) (hn : L.length ≤ 1000) (w : World) (h : Log w g base F L) :
    Calls Try.prog 13 #[.pointer (some ⟨g, 0, none⟩), .int .i64 id] w fun e w' => e = .returned (.tuple #[.agg (o5 ((lget L id).getD (0, 0, 0, 0, 0))).toArray, .bool (lget L id).isSome]) ∧ Below w.heap.size w w' := by
  obtain ⟨v, bm, n, D, h⟩ := h
  have hat := h.at_ id hid
  have hkey : Hid (keyOf Try.prog 3 (.int .i64 id) = some (.int .i64 id)) := Maps.keyOf_int_mk Try.underlying3 hid
  have hgi := lget_ix L id
  have c0 : w.cell? ⟨g, 0, none⟩ = some v := h.blk.cell 0
  have c1 : w.cell? ⟨g, 1, none⟩ = some (.map (some bm)) := h.blk.cell 1
  have hlg := h.blk.lt
  cases hx : lix L id with
  | none =>
    rw [hx] at hat hgi
    simp only [Option.map_none, Option.bind_none] at hat hgi
    rw [hgi]
    have HAT := Lib.hid hat
    have HM := Lib.hid (h.map.alloc (.cells #[.int .i64 0, .int .i64 0, .int .i64 0, .int .i64 0, .int .u64 0] 29))
    clear hat hgi h hx hn
    go_enter Try.func13, Try.ntmps13
    go_wp2_with (at_lookup; refine wpList_look_none _ rfl _ _ 43 rfl 3 3 keyI Try.underlying43 (.int .i64 0) (zeroI _) bm n D rfl HM.out _ _ rfl hkey.out HAT.out ?_)
    exact bodyPost_ret (v := .tuple #[.agg #[.int .i64 0, .int .i64 0, .int .i64 0, .int .i64 0, .int .u64 0], .bool false]) (by simp [results, Try.results13, go_sem]) rfl ⟨rfl, (by refine Upd.below0 ?_; repeat (first | exact Upd.refl _ _ | refine Upd.alloc ?_ _ | refine Upd.drew ?_ | refine Upd.drewN ?_ _))⟩
  | some i =>
    obtain ⟨o, ho, hoi⟩ := lix_some hx
    have hlt := lix_lt hx
    rw [hx] at hat hgi
    simp only [Option.map_some, Option.bind_some] at hat hgi
    rw [ho] at hgi
    rw [hgi]
    obtain ⟨A, cap, rfl, hs, _⟩ := Sl.of_own h.row
    obtain ⟨b, of, rfl, hb, hc⟩ := hs.row o5_len (by decide) ho
    clear hoi
    obtain ⟨oi, ok, oc, ov, oa⟩ := o
    have d0 := hc 0 _ rfl
    have d1 := hc 1 _ rfl
    have d2 := hc 2 _ rfl
    have d3 := hc 3 _ rfl
    have d4 := hc 4 _ rfl
    simp only [Nat.add_zero, ← Nat.add_assoc] at d0 d1 d2 d3 d4
    have i0 : (0 : Int) ≤ (i : Int) := Int.natCast_nonneg _
    have i1 : (i : Int) < (L.length : Int) := by omega
    have HAT := Lib.hid hat
    have HM := Lib.hid (h.map.alloc (.cells #[.int .i64 0, .int .i64 0, .int .i64 0, .int .i64 0, .int .u64 0] 29))
    have hl9 : L.length ≤ 9223372036854775807 := by omega
    clear hat hgi h hx ho hs hc
    go_enter Try.func13, Try.ntmps13
    go_wp2_with (at_lookup; refine wpList_look_some _ rfl _ _ 43 rfl 3 3 keyI Try.underlying43 (zeroI _) bm n D rfl HM.out _ _ rfl hkey.out _ HAT.out ?_)
    exact bodyPost_ret (v := .tuple #[.agg #[.int .i64 oi, .int .i64 ok, .int .i64 oc, .int .i64 ov, .int .u64 oa], .bool true]) (by simp [results, Try.results13, go_sem]) rfl ⟨rfl, (by refine Upd.below0 ?_; repeat (first | exact Upd.refl _ _ | refine Upd.alloc ?_ _ | refine Upd.drew ?_ | refine Upd.drewN ?_ _))⟩

theorem clone_to {A : Option Addr} {n cap : Nat} {l : List O5} (hl : l.length = n) (hn : n ≤ 1000) (w : World) (hs : Sl w A n cap (fl o5 l)) : Calls Try.prog 21 #[.slice A n cap] w fun e w' => ∃ v, e = .returned v ∧ w'.ownsRow w.heap.size 29 5 v n (fl o5 l) ∧ Upd (fun _ => False) w w' := clone_any A n cap l hl hn w hs
set_option maxHeartbeats 1000000 in
theorem since_any (g base : Nat) (F : Nat → Prop) (L : List O5) (k : Nat) (n : Int) (hk : (if n < 0 then 0 else if n > (L.length : Int) then L.length else n.toNat) = k) (hn : L.length ≤ 1000) (w : World) (h : Log w g base F L) :
    Calls Try.prog 19 #[.pointer (some ⟨g, 0, none⟩), .int .i64 n] w fun e w' => ∃ v, e = .returned v ∧ w'.ownsRow w.heap.size 29 5 v (L.length - k) (fl o5 (L.drop k)) ∧ Upd (fun _ => False) w w' := by
  obtain ⟨v, bm, m, D, h⟩ := h
  obtain ⟨A, cap, rfl, hs, _⟩ := Sl.of_own h.row
  have c0 : w.cell? ⟨g, 0, none⟩ = some (.slice A L.length cap) := h.blk.cell 0
  have hlg := h.blk.lt
  have HS := Lib.hid hs.drew
  have HL : Hid (∀ k, (L.drop k).length = L.length - k) := Lib.hid (fun k => List.length_drop ..)
  have hle := hs.le
  clear h hs
  by_cases h1 : n < 0
  · obtain rfl : k = 0 := by rw [if_pos h1] at hk; exact hk.symm
    clear hk
    go_enter Try.func19, Try.ntmps19
    go_wp2_with fail
    go_still_tail 12, (by kernel_rfl)
    change wpList _ _ _ _ _ w.drew
    go_wp2_with fail
    all_goals
      refine (clone_to rfl hn _ HS.out).mono ?_
      rintro e w3 ⟨v, rfl, ho, hu⟩
      have HO := Lib.hid ho
      have HU := Lib.hid hu
      clear ho hu
      go_wp2
      go_ret
      exact ⟨_, rfl, HO.out, (Upd.refl _ _).drew.trans HU.out (fun _ h => h.elim)⟩
  · rw [if_neg h1] at hk
    have hk1 : k ≤ L.length := by split at hk <;> omega
    by_cases h2 : n > (L.length : Int)
    · rw [if_pos h2] at hk
      subst hk
      clear hk1
      by_cases hc : cap = L.length
      · have SS : Hid (Sl w.drew A 0 0 (fl o5 (L.drop L.length))) := Lib.hid (HS.out.drop_cap L.length (Nat.le_refl _) hc rfl)
        go_enter Try.func19, Try.ntmps19
        go_wp2_with fail
        go_still_tail 12, (by kernel_rfl)
        change wpList _ _ _ _ _ w.drew
        go_wp2_with fail
        all_goals
          refine (clone_to (l := L.drop L.length) (by have h := HL.out L.length; omega) (by omega) _ SS.out).mono ?_
          rintro e w3 ⟨v, rfl, ho, hu⟩
          have HO := Lib.hid ho
          have HU := Lib.hid hu
          clear ho hu
          go_wp2
          go_ret
          exact ⟨_, rfl, by rw [Nat.sub_self]; exact HO.out, (Upd.refl _ _).drew.trans HU.out (fun _ h => h.elim)⟩
      · have SS : Hid (Sl w.drew (A.map (fun x => x.add (L.length * 5))) 0 (cap - L.length) (fl o5 (L.drop L.length))) := Lib.hid (by have := HS.out.drop o5_len L.length (Nat.le_refl _); rwa [Nat.sub_self] at this)
        go_enter Try.func19, Try.ntmps19
        go_wp2_with fail
        go_still_tail 12, (by kernel_rfl)
        change wpList _ _ _ _ _ w.drew
        go_wp2_with fail
        all_goals
          refine (clone_to (l := L.drop L.length) (by have h := HL.out L.length; omega) (by omega) _ SS.out).mono ?_
          rintro e w3 ⟨v, rfl, ho, hu⟩
          have HO := Lib.hid ho
          have HU := Lib.hid hu
          clear ho hu
          go_wp2
          go_ret
          exact ⟨_, rfl, by rw [Nat.sub_self]; exact HO.out, (Upd.refl _ _).drew.trans HU.out (fun _ h => h.elim)⟩
    · rw [if_neg h2] at hk
      subst hk
      have h3 : n ≤ (L.length : Int) := by omega
      by_cases hc : cap = n.toNat
      · have SS : Hid (Sl w.drew A (L.length - n.toNat) 0 (fl o5 (L.drop n.toNat))) := Lib.hid (by rw [show L.length - n.toNat = 0 by omega]; exact HS.out.drop_cap n.toNat hk1 hc rfl)
        go_enter Try.func19, Try.ntmps19
        go_wp2_with fail
        go_still_tail 12, (by kernel_rfl)
        change wpList _ _ _ _ _ w.drew
        go_wp2_with fail
        all_goals
          refine (clone_to (l := L.drop n.toNat) (by have h := HL.out n.toNat; omega) (by omega) _ SS.out).mono ?_
          rintro e w3 ⟨v, rfl, ho, hu⟩
          have HO := Lib.hid ho
          have HU := Lib.hid hu
          clear ho hu
          go_wp2
          go_ret
          exact ⟨_, rfl, HO.out, (Upd.refl _ _).drew.trans HU.out (fun _ h => h.elim)⟩
      · have SS : Hid (Sl w.drew (A.map (fun x => x.add (n.toNat * 5))) (L.length - n.toNat) (cap - n.toNat) (fl o5 (L.drop n.toNat))) := Lib.hid (HS.out.drop o5_len n.toNat hk1)
        go_enter Try.func19, Try.ntmps19
        go_wp2_with fail
        go_still_tail 12, (by kernel_rfl)
        change wpList _ _ _ _ _ w.drew
        go_wp2_with fail
        all_goals
          refine (clone_to (l := L.drop n.toNat) (by have h := HL.out n.toNat; omega) (by omega) _ SS.out).mono ?_
          rintro e w3 ⟨v, rfl, ho, hu⟩
          have HO := Lib.hid ho
          have HU := Lib.hid hu
          clear ho hu
          go_wp2
          go_ret
          exact ⟨_, rfl, HO.out, (Upd.refl _ _).drew.trans HU.out (fun _ h => h.elim)⟩
theorem all_any (g base : Nat) (F : Nat → Prop) (L : List O5) (hn : L.length ≤ 1000) (w : World) (h : Log w g base F L) :
    Calls Try.prog 18 #[.pointer (some ⟨g, 0, none⟩)] w fun e w' => ∃ v, e = .returned v ∧ w'.ownsRow w.heap.size 29 5 v L.length (fl o5 L) ∧ Upd (fun _ => False) w w' := by
  have HL := Lib.hid h
  clear h
  go_enter Try.func18, Try.ntmps18
  go_wp2_with fail
  refine (since_any g base F L 0 0 (by split <;> simp <;> omega) hn _ HL.out).mono ?_
  rintro e w1 ⟨v, rfl, ho, hu⟩
  have HO := Lib.hid ho
  have HU := Lib.hid hu
  clear ho hu
  go_wp2
  go_ret
  exact ⟨_, rfl, by simpa using HO.out, HU.out⟩

/-- What each operation of 'l.all = append(l.all, o)' yields. -/
def emΦ (g B base : Nat) (x : Value) (L : List O5) (o : O5) : Nat → Value → World → Prop
  | 4, v, w => v = x
  | 5, v, w => v = .agg (o5 o).toArray
  | 6, v, w => ∃ h, v = .slice (some ⟨h, 0, none⟩) 1 1 ∧ B ≤ h ∧ Blk w h 29 (o5 o).toArray
  | 7, v, w => w.ownsRow base 29 5 v (L.length + 1) (fl o5 (L ++ [o])) ∧ ∀ k, v.ownBlock = some k → x.ownBlock = some k ∨ B ≤ k
  | _, v, w => v = .pointer (some ⟨g, 0, none⟩)
theorem emΦ_stab {g B base : Nat} {x : Value} {L : List O5} {o : O5} (hx : ∀ k, x.ownBlock = some k → k < B) {w0 : World} : ∀ j v w w', emΦ g B base x L o j v w → Upd (fun k => x.ownBlock = some k) w0 w → Upd (fun k => x.ownBlock = some k) w w' → (j = 7 → Upd (fun _ => False) w w') → emΦ g B base x L o j v w' := by
  intro j v w w' h _ hu h0
  match j, h with
  | 0, h => exact h
  | 1, h => exact h
  | 2, h => exact h
  | 3, h => exact h
  | 4, h => exact h
  | 5, h => exact h
  | 6, ⟨i, h1, h2, h3⟩ => exact ⟨i, h1, h2, h3.upd hu (fun hs => by have := hx _ hs; omega)⟩
  | 7, ⟨h1, h2⟩ => exact ⟨own_upd0 h1 (h0 rfl), h2⟩
  | n + 8, h => exact h
theorem own_at {x : Value} {gg n cp H B : Nat} (hat : x.ownBlock = some gg ∨ gg = H) (hB : B ≤ H) : ∀ k, (Value.slice (some ⟨gg, 0, none⟩) n cp).ownBlock = some k → x.ownBlock = some k ∨ B ≤ k := by
  intro k hk
  have e : gg = k := by simpa [Value.ownBlock] using hk
  subst e
  rcases hat with h | h
  · exact .inl h
  · exact .inr (by omega)
set_option maxHeartbeats 2000000 in
theorem emit_any (g base : Nat) (F : Nat → Prop) (L : List O5) (o : O5) (hid : (Lit.int .i64 o.1).wf = true) (hn : L.length ≤ 1000) (w : World) (h : Log w g base F L) :
    Calls Try.prog 11 #[.pointer (some ⟨g, 0, none⟩), .agg (o5 o).toArray] w fun e w' => ∃ F', e = .returned (.bool (lemit L o).2) ∧ Log w' g base F' (lemit L o).1 ∧ Upd F w w' ∧ (∀ k, F' k → F k ∨ w.heap.size ≤ k) := by
  obtain ⟨v, bm, n, D, h⟩ := h
  obtain ⟨id, kd, cs, vl, at_⟩ := o
  simp only at hid
  show Calls Try.prog _ #[.pointer (some ⟨g, 0, none⟩), .agg #[.int .i64 id, .int .i64 kd, .int .i64 cs, .int .i64 vl, .int .u64 at_]] w _
  have hkey : Hid (keyOf Try.prog 3 (.int .i64 id) = some (.int .i64 id)) := Maps.keyOf_int_mk Try.underlying3 hid
  obtain ⟨mo, hmo⟩ : ∃ b, omay (id, kd, cs, vl, at_) = b := ⟨_, rfl⟩
  have HMO := Lib.hid hmo
  have HAT := Lib.hid (h.at_ id hid)
  have HL := Lib.hid h
  have may_to : ∀ w, Calls Try.prog 15 #[.agg #[.int .i64 id, .int .i64 kd, .int .i64 cs, .int .i64 vl, .int .u64 at_]] w fun e w' => e = .returned (.bool mo) ∧ Below w.heap.size w w' := fun w => by have := may_any id kd cs vl at_ w; rwa [hmo] at this
  clear hmo h
  cases mo with
  | false =>
    go_enter Try.func11, Try.ntmps11
    go_wp2_with (go_at_call 15; refine (may_to _).mono ?_; rintro e w1 ⟨rfl, hd⟩; have HU : Hid (Upd (fun _ => False) w w1) := Lib.hid (((Upd.refl _ _).alloc _).trans (Upd.of_below hd (fun _ => False)) (fun _ h => h.elim)); clear hd)
    go_ret
    refine ⟨F, by simp [lemit, HMO.out], ⟨v, bm, n, D, ?_⟩, HU.out.mono (fun _ h => h.elim), fun k hk => .inl hk⟩
    simp only [lemit, HMO.out]
    exact HL.out.upd HU.out (fun _ _ h => h)
  | true =>
    cases hx : lix L id with
    | some i =>
      rw [hx] at HAT
      go_enter Try.func11, Try.ntmps11
      go_wp2_with (go_at_call 15; refine (may_to _).mono ?_; rintro e w1 ⟨rfl, hd⟩; have HU : Hid (Upd (fun _ => False) w w1) := Lib.hid (((Upd.refl _ _).alloc _).trans (Upd.of_below hd (fun _ => False)) (fun _ h => h.elim)); have B1 := Lib.hid ((Blk.new w #[.int .i64 id, .int .i64 kd, .int .i64 cs, .int .i64 vl, .int .u64 at_] 29).upd (Upd.of_below hd (fun _ => False)) (fun h => h)); clear hd)
      have hlk : ∀ m, (Instr.lookup 43 (.map (some bm)) (.int .i64 id) true).run Try.prog (w1.drewN m) = .ok (.tuple #[.int .i64 i, .bool true]) (w1.drewN m) := fun m => ((HL.out.map.upd0 HU.out).drewN m).look_some keyI Try.underlying43 (zeroI _) hkey.out HAT.out true
      have b0 := B1.out.cell 0
      have c1 : w1.cell? ⟨g, 1, none⟩ = some (.map (some bm)) := (HL.out.blk.upd HU.out (fun h => h)).cell 1
      have hge := (HL.out.blk.upd HU.out (fun h => h)).lt
      go_quiet (fail)
      go_wp2
      go_ret
      have HE : Hid (lemit L (id, kd, cs, vl, at_) = (L, false)) := by show _ = _; unfold lemit; rw [if_neg (by simp [hx])]
      exact ⟨F, by rw [HE.out]; rfl, ⟨v, bm, n, D, by rw [HE.out]; exact HL.out.upd (HU.out.drewN nq) (fun _ _ h => h)⟩, (HU.out.drewN nq).mono (fun _ h => h.elim), fun k hk => .inl hk⟩
    | none =>
      rw [hx] at HAT
      go_enter Try.func11, Try.ntmps11
      go_wp2_with (go_at_call 15; refine (may_to _).mono ?_; rintro e w1 ⟨rfl, hd⟩; have HU : Hid (Upd (fun _ => False) w w1) := Lib.hid (((Upd.refl _ _).alloc _).trans (Upd.of_below hd (fun _ => False)) (fun _ h => h.elim)); have B1 := Lib.hid ((Blk.new w #[.int .i64 id, .int .i64 kd, .int .i64 cs, .int .i64 vl, .int .u64 at_] 29).upd (Upd.of_below hd (fun _ => False)) (fun h => h)); clear hd)
      have H1 := Lib.hid (HL.out.upd HU.out (fun _ _ h => h))
      have hlk : ∀ m, (Instr.lookup 43 (.map (some bm)) (.int .i64 id) true).run Try.prog (w1.drewN m) = .ok (.tuple #[.int .i64 0, .bool false]) (w1.drewN m) := fun m => (H1.out.map.drewN m).look_none keyI Try.underlying43 (zeroI _) hkey.out HAT.out true
      have b0 := B1.out.cell 0
      have c1 : w1.cell? ⟨g, 1, none⟩ = some (.map (some bm)) := H1.out.blk.cell 1
      have c0 : w1.cell? ⟨g, 0, none⟩ = some v := H1.out.blk.cell 0
      have hge := H1.out.blk.lt
      obtain ⟨A, cap, rfl, hsx, hbx⟩ := Sl.of_own H1.out.row
      clear hsx hbx
      go_quiet (fail)
      go_wp2
      refine Code.gen (fun W => LogAt W g base F (.slice A L.length cap) bm n D L ∧ Upd (fun _ => False) w W ∧ Blk W w.heap.size 29 #[.int .i64 id, .int .i64 kd, .int .i64 cs, .int .i64 vl, .int .u64 at_]) ⟨H1.out.upd (S := fun _ => False) ((Upd.refl _ _).drewN nq) (fun _ _ h => h), HU.out.drewN nq, B1.out.drewN nq⟩ ?_
      rintro w2 ⟨h2, u2, b2⟩
      have H2 := Lib.hid h2
      have U2 := Lib.hid u2
      have B2 := Lib.hid b2
      clear hlk b0 c1 c0 hge H1 HU B1 h2 u2 b2
      have b0 := B2.out.cell 0
      have c1 : w2.cell? ⟨g, 1, none⟩ = some (.map (some bm)) := H2.out.blk.cell 1
      have c0 : w2.cell? ⟨g, 0, none⟩ = some (.slice A L.length cap) := H2.out.blk.cell 0
      have hge := H2.out.blk.lt
      go_still_tail 11, (by kernel_rfl)
      change wpList _ _ _ _ _ w2.drew
      have HM : Hid (Mp w2.drew Try.prog 3 bm n D) := Lib.hid (H2.out.map.drew)
      have hlp : n < maxLen := by have := H2.out.le; unfold maxLen; omega
      go_wp2_with (at_mapUpdate; go_loud (refine wpList_put _ rfl _ _ _ 43 rfl 3 3 keyI Try.underlying43 bm n D rfl HM.out hlp _ (.int .i64 (L.length : Int)) (.int .i64 id) rfl rfl hkey.out ?_; intro w3 hm3 hu3))
      have hbA : bm ≠ g := H2.out.map.ne_blk H2.out.blk
      have hbB : bm ≠ w.heap.size := H2.out.map.ne_blk B2.out
      have hbr : (Value.slice A L.length cap).ownBlock ≠ some bm := H2.out.map.ne_own H2.out.row
      have R3 : Hid (w3.ownsRow base 29 5 (.slice A L.length cap) L.length (fl o5 L)) := Lib.hid (own_upd (own_drew H2.out.row) hu3 (fun b hb hs => hbr (by rw [hb]; exact congrArg some hs)))
      have K3 : Hid (Blk w3 g 45 #[.slice A L.length cap, .map (some bm)]) := Lib.hid ((H2.out.blk.drew).upd hu3 (fun h => hbA h.symm))
      have B3 : Hid (Blk w3 w.heap.size 29 #[.int .i64 id, .int .i64 kd, .int .i64 cs, .int .i64 vl, .int .u64 at_]) := Lib.hid ((B2.out.drew).upd hu3 (fun h => hbB h.symm))
      have M3 := Lib.hid hm3
      have U3 : Hid (Upd F w w3) := Lib.hid ((U2.out.drew.mono (S' := F) (fun _ h => h.elim)).trans hu3 (fun k hk => .inl (by rw [show k = bm from hk]; exact H2.out.fm)))
      have hw3 : w.heap.size < w3.heap.size := B3.out.lt
      have hxB : ∀ k, (Value.slice A L.length cap).ownBlock = some k → k < w3.heap.size := fun k hk => Nat.lt_of_lt_of_le (H2.out.ge k (H2.out.fv k hk)).2 hu3.size
      have hbase : base ≤ w3.heap.size := Nat.le_of_lt (Nat.lt_of_le_of_lt (H2.out.ge g H2.out.fg).1 K3.out.lt)
      obtain ⟨i0, hj, hz0, hz1, hz2⟩ := info_parts infoO
      have HX := Lib.hid hxB
      have HXW : Hid (∀ k, (Value.slice A L.length cap).ownBlock = some k → k < w.heap.size) := Lib.hid (fun k hk => (HL.out.ge k (HL.out.fv k hk)).2)
      clear hm3 hu3 HM b0 c1 c0 hge hxB
      simp only [Act.put]
      refine wp_region_invS (by kernel_rfl) (by kernel_rfl) (fun k => (Value.slice A L.length cap).ownBlock = some k) 7 (emΦ g w3.heap.size base (.slice A L.length cap) L (id, kd, cs, vl, at_)) (emΦ_stab HX.out) ?_ ?_
      · intro j o k ho hne hk a w' lm hF hlm hD
        have hj10 : j < 10 := by
          have := (Array.getElem?_eq_some_iff.1 ho).1
          simp at this hne
          omega
        have hBo := hF.upd.size
        simp only [World.size_drew] at hBo
        have q0 : w'.cell? ⟨g, 0, none⟩ = some (.slice A L.length cap) := ((K3.out.drew).upd hF.upd (own_sep R3.out K3.out (by decide))).cell 0
        have s3 : a.tmps.getD 3 undef = .pointer (some ⟨w.heap.size, 0, none⟩) := hF.keep 3 (by kernel_rfl)
        have s0 : a.tmps.getD 0 undef = .pointer (some ⟨g, 0, none⟩) := hF.keep 0 (by kernel_rfl)
        rcases j with _ | _ | _ | _ | _ | _ | _ | _ | _ | _ | j
        all_goals (try (exfalso; omega))
        all_goals simp at ho
        all_goals subst ho
        all_goals simp at hk
        all_goals (try subst hk)
        · skip
          unfold Oper.wp
          go_simp
          exact ⟨_, rfl, Upd.refl _ _, Upd.refl _ _, rfl⟩
        · skip
          unfold Oper.wp
          go_simp
          exact ⟨_, rfl, Upd.refl _ _, Upd.refl _ _, rfl⟩
        · skip
          have f : a.tmps.getD 37 undef = .pointer (some ⟨g, 0, none⟩) := hD ⟨1, .data⟩ (by simp) rfl _ _ rfl rfl
          unfold Oper.wp
          go_simp
          exact ⟨_, rfl, Upd.refl _ _, Upd.refl _ _, rfl⟩
        · skip
          have f : a.tmps.getD 38 undef = .pointer (some ⟨g, 0, none⟩) := hD ⟨2, .data⟩ (by simp) rfl _ _ rfl rfl
          unfold Oper.wp
          go_simp
          exact ⟨_, rfl, Upd.refl _ _, Upd.refl _ _, rfl⟩
        · skip
          have f : a.tmps.getD 39 undef = .pointer (some ⟨g, 0, none⟩) := hD ⟨3, .data⟩ (by simp) rfl _ _ rfl rfl
          unfold Oper.wp
          go_simp
          exact ⟨_, rfl, Upd.refl _ _, Upd.refl _ _, rfl⟩
        · have BB := ((B3.out.drew).upd hF.upd (fun h => absurd (HXW.out _ h) (Nat.lt_irrefl _))).cell
          have d0 := BB 0
          have d1 := BB 1
          have d2 := BB 2
          have d3 := BB 3
          have d4 := BB 4
          unfold Oper.wp
          go_simp
          exact ⟨_, rfl, Upd.refl _ _, Upd.refl _ _, rfl⟩
        · skip
          have f : a.tmps.getD 41 undef = .agg #[.int .i64 id, .int .i64 kd, .int .i64 cs, .int .i64 vl, .int .u64 at_] := hD ⟨5, .data⟩ (by simp) rfl _ _ rfl rfl
          have f' : a.tmps[41]?.getD undef = .agg #[.int .i64 id, .int .i64 kd, .int .i64 cs, .int .i64 vl, .int .u64 at_] := by rw [← Array.getD_eq_getD_getElem?]; exact f
          unfold Oper.wp
          go_simp
          exact ⟨_, rfl, (Upd.refl _ _).alloc _, (Upd.refl _ _).alloc _, ⟨w'.heap.size, rfl, hBo, Blk.new _ _ _⟩⟩
        · have f4 : a.tmps.getD 40 undef = .slice A L.length cap := hD ⟨4, .data⟩ (by simp) rfl _ _ rfl rfl
          obtain ⟨h, f6, hh, hbk⟩ : emΦ g w3.heap.size base (.slice A L.length cap) L (id, kd, cs, vl, at_) 6 (a.tmps.getD 42 undef) w' := hD ⟨6, .data⟩ (by simp) rfl _ _ rfl rfl
          have hrow := own_upd0 (own_drew R3.out) (hF.upd0 (hlm rfl))
          exact wp_append_lies w' (.tmp 40) (.tmp 42) _ rfl base 29 i0 (.agg #[.int .i64 0, .int .i64 0, .int .i64 0, .int .i64 0, .int .u64 0]) 5 40 Try.underlying22 hj hz0 hz1 hz2 rfl (by decide) (.slice A L.length cap) L.length (fl o5 L) f4 hrow ⟨h, 0, none⟩ 1 1 (o5 (id, kd, cs, vl, at_)) f6 rfl hbk.news (by intro u hu; simp [o5] at hu; rcases hu with rfl | rfl | rfl | rfl | rfl <;> rfl) (by omega) (by unfold maxLen; omega) (by omega) (by omega) w'.heap.size rfl (fun gg cp w6 hown hgrow hat hlt => ⟨_, rfl, Upd.of_grown hgrow, fun hne => absurd rfl hne, ⟨by rw [fl_snoc]; exact hown, own_at hat hBo⟩⟩)
        · skip
          have f : a.tmps.getD 36 undef = .pointer (some ⟨g, 0, none⟩) := hD ⟨0, .data⟩ (by simp) rfl _ _ rfl rfl
          unfold Oper.wp
          go_simp
          exact ⟨_, rfl, Upd.refl _ _, Upd.refl _ _, rfl⟩
        · skip
          have f : a.tmps.getD 44 undef = .pointer (some ⟨g, 0, none⟩) := hD ⟨8, .data⟩ (by simp) rfl _ _ rfl rfl
          unfold Oper.wp
          go_simp
          exact ⟨_, rfl, Upd.refl _ _, Upd.refl _ _, rfl⟩
      · intro o ho a w' lm hF hD
        have f45 : a.tmps.getD 45 undef = .pointer (some ⟨g, 0, none⟩) := hD 9 _ _ rfl (by simp) rfl
        obtain ⟨h7, h8⟩ : emΦ g w3.heap.size base (.slice A L.length cap) L (id, kd, cs, vl, at_) 7 (a.tmps.getD 43 undef) w' := hD 7 _ _ rfl (by simp) rfl
        obtain ⟨v', e7⟩ : ∃ v, a.tmps.getD 43 undef = v := ⟨_, rfl⟩
        rw [e7] at h7 h8
        have H7 := Lib.hid h7
        have H8 := Lib.hid h8
        have KK := Lib.hid ((K3.out.drew).upd hF.upd (own_sep R3.out K3.out (by decide)))
        have MM := Lib.hid ((M3.out.drew).upd hF.upd hbr)
        have UU : Hid (Upd F w w') := Lib.hid ((U3.out.drew).trans hF.upd (fun k hk => .inl (H2.out.fv k hk)))
        have hcg := KK.out.cell
        have hfg := KK.out.frz
        have hlg := KK.out.lt
        have HF := Lib.hid hF
        clear hF hD h7 h8
        have ho' := Option.some.inj ho
        clear ho
        subst ho'
        unfold Oper.wp
        obtain ⟨A', cap', rfl, hsx, hbx⟩ := Sl.of_own H7.out
        clear hsx hbx
        go_simp
        rename_i hK1
        refine hK1 _ _ ?_
        clear hK1
        rw [HF.out.act [false, false, false, false, false, false, false, false, false, false, false, false, false, false, false, false, false, false, false, false, false, false, false, false, false, false, false, false, false, false, false, false, false, false, false, false, true, true, true, true, true, true, true, true, true, true] (by kernel_rfl)]
        simp only [pickv, Nat.reduceAdd, Nat.zero_add]
        clear e7 f45 HF
        generalize a.tmps.getD 36 undef = u36
        generalize a.tmps.getD 37 undef = u37
        generalize a.tmps.getD 38 undef = u38
        generalize a.tmps.getD 39 undef = u39
        generalize a.tmps.getD 40 undef = u40
        generalize a.tmps.getD 41 undef = u41
        generalize a.tmps.getD 42 undef = u42
        generalize a.tmps.getD 43 undef = u43
        generalize a.tmps.getD 44 undef = u44
        generalize a.tmps.getD 45 undef = u45
        clear hcg hfg hlg
        have HE : Hid (lemit L (id, kd, cs, vl, at_) = (L ++ [(id, kd, cs, vl, at_)], true)) := by show _ = _; unfold lemit; rw [if_pos ⟨HMO.out, hx⟩]
        have UV : Hid (Upd F w (w'.setCell ⟨g, 0, none⟩ (.slice A' (L.length + 1) cap'))) := Lib.hid (UU.out.set (p := ⟨g, 0, none⟩) (.inl H2.out.fg) _)
        have NL : Hid (LogAt (w'.setCell ⟨g, 0, none⟩ (.slice A' (L.length + 1) cap')) g base (fun k => F k ∨ (w.heap.size ≤ k ∧ k < w'.heap.size)) (.slice A' (L.length + 1) cap') bm (n + 1) (D.put (.int .i64 id) (.held (.int .i64 (L.length : Int)))) (L ++ [(id, kd, cs, vl, at_)])) := Lib.hid (by
          refine ⟨KK.out.set 0 _, by simpa using own_far H7.out (p := ⟨g, 0, none⟩) (own_sep H7.out KK.out (by decide)) _, MM.out.far (p := ⟨g, 0, none⟩) hbA _, by have := H2.out.le; simp; omega, fun id' hid' => ?_, .inl H2.out.fg, .inl H2.out.fm, fun k hk => ?_, fun k hk => ?_⟩
          · rw [lix_snoc]
            by_cases e : id = id'
            · subst e
              rw [mat_put_same H2.out.map.isMap (keyI.key hkey.out), hx]
              simp
            · rw [mat_put_other (fun h => e (by simpa using h.symm)), H2.out.at_ id' hid']
              simp only [if_neg e]
              cases lix L id' <;> rfl
          · rcases H8.out k hk with h | h
            · exact .inl (H2.out.fv k h)
            · exact .inr ⟨Nat.le_trans (Nat.le_of_lt hw3) h, own_lt H7.out hk⟩
          · rcases hk with hk | ⟨h1, h2⟩
            · exact ⟨(H2.out.ge k hk).1, by have := (HL.out.ge k hk).2; have := UV.out.size; omega⟩
            · refine ⟨?_, by simpa using h2⟩
              have := (HL.out.ge g H2.out.fg)
              omega)
        generalize w'.setCell ⟨g, 0, none⟩ (.slice A' (L.length + 1) cap') = W at UV NL ⊢
        go_wp2
        go_ret
        exact ⟨fun k => F k ∨ (w.heap.size ≤ k ∧ k < w'.heap.size), by rw [HE.out]; rfl, ⟨_, _, _, _, by rw [HE.out]; exact NL.out⟩, UV.out, fun k hk => hk.imp (fun h => h) (fun h => h.1)⟩
end Go.Proofs.Ytmpacmjlpkhgoaa
