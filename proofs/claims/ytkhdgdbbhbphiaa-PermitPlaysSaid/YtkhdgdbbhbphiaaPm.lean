/- Permits in memory, and each of the set's functions. -/
import Derived.Test.YtkhdgdbbhbphiaaPk
import Derived.Deep.RegionHeld3
import Derived.BigQuiet
import Derived.Deep.QuietTactic
import Derived.StillTailTactics
namespace Go.Proofs.Ytkhdgdbbhbphiaa
open Go.RowKit
open Go.Maps (Keyed IsMap Tidy)
set_option linter.unusedVariables false
set_option linter.unusedSimpArgs false

/-- Holders as a map's entries. -/
def hmap (hs : List H2) : List (H2 × Value) := hs.map fun h => (h, .bool true)
/-- One more; one less. -/
def hput (hs : List H2) (h : H2) : List H2 := h :: hs.filter (fun x => decide (x ≠ h))
def hwo (hs : List H2) (h : H2) : List H2 := hs.filter (fun x => decide (x ≠ h))
theorem lwo_hmap (hs : List H2) (h : H2) : lwo (hmap hs) h = hmap (hwo hs h) := by
  unfold lwo hmap hwo
  rw [List.filter_map]
  rfl
theorem lput_hmap (hs : List H2) (h : H2) : lput (hmap hs) h (.bool true) = hmap (hput hs h) := by
  unfold lput
  rw [lwo_hmap]
  rfl
theorem lk_hmap (hs : List H2) (h : H2) : lk (hmap hs) h = if h ∈ hs then some (.bool true) else none := by
  induction hs with
  | nil => rfl
  | cons x l ih =>
    unfold lk hmap at ih ⊢
    by_cases hx : x = h
    · subst hx
      simp
    · rw [List.map_cons, List.find?_cons_of_neg (by simp [hx]), ih]
      simp [Ne.symm hx]
theorem hwo_none {hs : List H2} {h : H2} (hn : h ∉ hs) : hwo hs h = hs := List.filter_eq_self.2 fun x hx => by
  simp only [decide_eq_true_eq]
  rintro rfl
  exact hn hx
/-- A set in memory: the pointer's block, the map's. -/
structure PS (w : World) (g b : Nat) (most : Int) (N : Nat) (hs : List H2) : Prop where
  blk : Blk w g 51 #[.int .i64 most, .map (some b)]
  mp : ∃ n D, n ≤ N ∧ Mp w Try.prog 31 b n D ∧ Lk hkl hok D (hmap hs)
section
variable {w w' : World} {g b N : Nat} {most : Int} {hs : List H2} {h : H2}
theorem PS.upd {S : Nat → Prop} (hp : PS w g b most N hs) (hu : Upd S w w') (h1 : ¬ S g) (h2 : ¬ S b) : PS w' g b most N hs := by
  obtain ⟨hb, n, D, hn, hm, hl⟩ := hp
  exact ⟨hb.upd hu h1, n, D, hn, hm.upd hu h2, hl⟩
theorem PS.upd0 (hp : PS w g b most N hs) (hu : Upd (fun _ => False) w w') : PS w' g b most N hs := hp.upd hu (fun h => h) (fun h => h)
theorem PS.ne (hp : PS w g b most N hs) : b ≠ g := by
  obtain ⟨hb, n, D, hn, hm, hl⟩ := hp
  exact hm.ne_blk hb
theorem PS.lt (hp : PS w g b most N hs) : b < w.heap.size := by
  obtain ⟨hb, n, D, hn, hm, hl⟩ := hp
  exact hm.lt
theorem PS.more {N' : Nat} (hp : PS w g b most N hs) (hN : N ≤ N') : PS w g b most N' hs := by
  obtain ⟨hb, n, D, hn, hm, hl⟩ := hp
  exact ⟨hb, n, D, Nat.le_trans hn hN, hm, hl⟩
theorem PS.nodup (hp : PS w g b most N hs) : hs.Nodup := by
  obtain ⟨hb, n, D, hn, hm, _, hd, _⟩ := hp
  unfold hmap at hd
  rw [List.map_map] at hd
  simpa [Function.comp_def] using hd
theorem PS.oks (hp : PS w g b most N hs) : ∀ h ∈ hs, hok h := by
  obtain ⟨hb, n, D, hn, hm, _, _, ho⟩ := hp
  exact fun h hh => ho (h, .bool true) (List.mem_map.2 ⟨h, hh, rfl⟩)
theorem zeroB (w : World) : (zeroValue 4).run Try.prog w = .ok (.bool false) w := by kernel_rfl
theorem PS.look (hp : PS w g b most N hs) (hh : hok h) : (Instr.lookup 49 (.map (some b)) (hval h) false).run Try.prog w = .ok (.bool (decide (h ∈ hs))) w := by
  obtain ⟨hb, n, D, hn, hm, hl⟩ := hp
  have hat := hl.at_ hklit hh
  rw [lk_hmap] at hat
  by_cases hc : h ∈ hs
  · rw [if_pos hc] at hat
    have := hm.look_some keyH Try.underlying49 (zeroB w) (hkey hh) hat false
    simpa [hc] using this
  · rw [if_neg hc] at hat
    have := hm.look_none keyH Try.underlying49 (zeroB w) (hkey hh) hat false
    simpa [hc] using this
theorem PS.len (hp : PS w g b most N hs) (ty : TypeId) : (Builtin.len_ #[49] ty #[.map (some b)]).run Try.prog w = .ok (.int .i64 (hs.length : Int)) w := by
  obtain ⟨hb, n, D, hn, hm, hl⟩ := hp
  have h := World.ownsMap.len hm Try.underlying49 ty
  rw [hl.size] at h
  simpa [hmap] using h
theorem PS.len_le (hp : PS w g b most N hs) : hs.length ≤ N := by
  obtain ⟨hb, n, D, hn, hm, hl⟩ := hp
  have h := World.ownsMap.size_le hm
  rw [hl.size] at h
  simp [hmap] at h
  omega
end
theorem pnew_yes {most : Int} (h0 : 0 ≤ most) (h8 : most ≤ 8) (w : World) : Calls Try.prog 14 #[.int .i64 most] w fun e w' => ∃ g b, e = .returned (.pointer (some ⟨g, 0, none⟩)) ∧ PS w' g b most 0 [] ∧ w.heap.size ≤ g ∧ w.heap.size ≤ b ∧ Upd (fun _ => False) w w' := by
  have hmm := @run_makeMap Try.prog
  have q1 : ¬ most < 0 := by omega
  have q2 : ¬ 8 < most := by omega
  go_enter Try.func14, Try.ntmps14
  go_wp2
  go_ret
  exact ⟨w.heap.size + 1, rfl, w.heap.size, ⟨Blk.new1 w _ _ _, 0, .map [], Nat.le_refl _, (Mp.made w _ _).alloc _, Lk.nil⟩, by omega, Nat.le_refl _, (by repeat (first | exact Upd.refl _ _ | refine Upd.alloc ?_ _ | refine Upd.drew ?_ | refine Upd.drewN ?_ _ | refine Upd.put ?_ _ _))⟩
theorem pnew_no {most : Int} (h : most < 0 ∨ 8 < most) (w : World) : Calls Try.prog 14 #[.int .i64 most] w fun e w' => e = .returned (.pointer none) ∧ Upd (fun _ => False) w w' := by
  by_cases q1 : most < 0
  · go_enter Try.func14, Try.ntmps14
    go_wp2
    go_ret
    exact ⟨rfl, (by repeat (first | exact Upd.refl _ _ | refine Upd.alloc ?_ _ | refine Upd.drew ?_ | refine Upd.drewN ?_ _ | refine Upd.put ?_ _ _))⟩
  · have q2 : 8 < most := by omega
    go_enter Try.func14, Try.ntmps14
    go_wp2
    go_ret
    exact ⟨rfl, (by repeat (first | exact Upd.refl _ _ | refine Upd.alloc ?_ _ | refine Upd.drew ?_ | refine Upd.drewN ?_ _ | refine Upd.put ?_ _ _))⟩
theorem used_nil (w : World) : Calls Try.prog 18 #[.pointer none] w fun e w' => e = .returned (.int .i64 0) ∧ Upd (fun _ => False) w w' := by
  go_enter Try.func18, Try.ntmps18
  go_wp2
  go_ret
  exact ⟨rfl, (by repeat (first | exact Upd.refl _ _ | refine Upd.alloc ?_ _ | refine Upd.drew ?_ | refine Upd.drewN ?_ _ | refine Upd.put ?_ _ _))⟩
theorem used_to {g b N : Nat} {most : Int} {hs : List H2} (w : World) (hp : PS w g b most N hs) : Calls Try.prog 18 #[.pointer (some ⟨g, 0, none⟩)] w fun e w' => e = .returned (.int .i64 (hs.length : Int)) ∧ Upd (fun _ => False) w w' := by
  have hl := fun ty => hp.len ty
  have c1 : w.cell? ⟨g, 1, none⟩ = some (.map (some b)) := hp.blk.cell 1
  have lt := hp.blk.lt
  clear hp
  go_enter Try.func18, Try.ntmps18
  go_wp2
  go_ret
  exact ⟨rfl, (by repeat (first | exact Upd.refl _ _ | refine Upd.alloc ?_ _ | refine Upd.drew ?_ | refine Upd.drewN ?_ _ | refine Upd.put ?_ _ _))⟩
theorem room_nil (w : World) : Calls Try.prog 19 #[.pointer none] w fun e w' => e = .returned (.bool false) ∧ ∃ n, w' = w.drewN n := by
  go_enter Try.func19, Try.ntmps19
  go_wp2_with fail
  go_quiet (fail)
  go_wp2
  go_ret
  exact ⟨rfl, _, rfl⟩
theorem room_to {g b N : Nat} {most : Int} {hs : List H2} (w : World) (hp : PS w g b most N hs) : Calls Try.prog 19 #[.pointer (some ⟨g, 0, none⟩)] w fun e w' => e = .returned (.bool (decide ((hs.length : Int) < most))) ∧ ∃ n, w' = w.drewN n := by
  have hl : ∀ m ty, (Builtin.len_ #[49] ty #[.map (some b)]).run Try.prog (w.drewN m) = .ok (.int .i64 (hs.length : Int)) (w.drewN m) := fun m ty => (hp.upd0 ((Upd.refl _ w).drewN m)).len ty
  have c0 : w.cell? ⟨g, 0, none⟩ = some (.int .i64 most) := hp.blk.cell 0
  have c1 : w.cell? ⟨g, 1, none⟩ = some (.map (some b)) := hp.blk.cell 1
  have lt := hp.blk.lt
  clear hp
  go_enter Try.func19, Try.ntmps19
  go_wp2_with fail
  go_quiet (fail)
  go_wp2
  go_ret
  exact ⟨rfl, _, rfl⟩
theorem holds_nil {h : H2} (w : World) : Calls Try.prog 11 #[.pointer none, hval h] w fun e w' => e = .returned (.bool false) ∧ Upd (fun _ => False) w w' := by
  go_enter Try.func11, Try.ntmps11
  go_wp2_with fail
  go_quiet (fail)
  go_wp2
  go_ret
  exact ⟨rfl, (by repeat (first | exact Upd.refl _ _ | refine Upd.alloc ?_ _ | refine Upd.drew ?_ | refine Upd.drewN ?_ _ | refine Upd.put ?_ _ _))⟩
theorem holds_to {g b N : Nat} {most : Int} {hs : List H2} {h : H2} (hh : hok h) (w : World) (hp : PS w g b most N hs) : Calls Try.prog 11 #[.pointer (some ⟨g, 0, none⟩), hval h] w fun e w' => e = .returned (.bool (decide (h ∈ hs))) ∧ Upd (fun _ => False) w w' := by
  have hlk : ∀ m, (Instr.lookup 49 (.map (some b)) (hval h) false).run Try.prog ((w.alloc (.cells #[.int .i64 h.1, .int .i64 h.2] 31)).drewN m) = .ok (.bool (decide (h ∈ hs))) ((w.alloc (.cells #[.int .i64 h.1, .int .i64 h.2] 31)).drewN m) := fun m => (hp.upd0 (((Upd.refl _ w).alloc _).drewN m)).look hh
  have hB := (hp.blk.alloc (.cells #[.int .i64 h.1, .int .i64 h.2] 31))
  have c1 : (w.alloc (.cells #[.int .i64 h.1, .int .i64 h.2] 31)).cell? ⟨g, 1, none⟩ = some (.map (some b)) := hB.cell 1
  have lt := hp.blk.lt
  clear hp hB
  go_enter Try.func11, Try.ntmps11
  go_wp2_with fail
  go_quiet (fail)
  go_wp2
  go_ret
  exact ⟨rfl, (by repeat (first | exact Upd.refl _ _ | refine Upd.alloc ?_ _ | refine Upd.drew ?_ | refine Upd.drewN ?_ _ | refine Upd.put ?_ _ _))⟩
theorem take_nil {h : H2} (w : World) : Calls Try.prog 21 #[.pointer none, hval h] w fun e w' => e = .returned (.bool false) ∧ Upd (fun _ => False) w w' := by
  go_enter Try.func21, Try.ntmps21
  go_wp2_with fail
  go_quiet ((go_at_call 19; exact Calls.quiet_of (room_nil _)))
  go_wp2
  go_ret
  exact ⟨rfl, (by repeat (first | exact Upd.refl _ _ | refine Upd.alloc ?_ _ | refine Upd.drew ?_ | refine Upd.drewN ?_ _ | refine Upd.put ?_ _ _))⟩
theorem free_nil {h : H2} (w : World) : Calls Try.prog 22 #[.pointer none, hval h] w fun e w' => e = .returned (.bool false) ∧ Upd (fun _ => False) w w' := by
  go_enter Try.func22, Try.ntmps22
  go_wp2_with fail
  refine (holds_nil _).mono ?_
  rintro e_ w1 ⟨rfl, hu⟩
  have hu1 := ((Upd.refl (fun _ => False) w).alloc (.cells #[.int .i64 h.1, .int .i64 h.2] 31)).trans hu (fun _ h => h.elim)
  have HU := Lib.hid hu1
  clear hu hu1
  go_wp2
  go_ret
  exact ⟨rfl, HU.out⟩
/-- What a take answers. -/
def ptakes (most : Int) (hs : List H2) (h : H2) : Bool := decide ((hs.length : Int) < most) && !decide (h ∈ hs)
def ptake (most : Int) (hs : List H2) (h : H2) : List H2 := if ptakes most hs h = true then hput hs h else hs
theorem take_to {g b N : Nat} {most : Int} {hs : List H2} {h : H2} (hh : hok h) (hN : N < 1000) (w : World) (hp : PS w g b most N hs) : Calls Try.prog 21 #[.pointer (some ⟨g, 0, none⟩), hval h] w fun e w' => e = .returned (.bool (ptakes most hs h)) ∧ PS w' g b most (N + 1) (ptake most hs h) ∧ Upd (At b) w w' := by
  obtain ⟨w1, hw1⟩ : ∃ w1, w.alloc (.cells #[.int .i64 h.1, .int .i64 h.2] 31) = w1 := ⟨_, rfl⟩
  have hu1 : Upd (fun _ => False) w w1 := hw1 ▸ (Upd.refl _ w).alloc _
  have hp1 := hp.upd0 hu1
  have hbx : Blk w1 w.heap.size 31 #[.int .i64 h.1, .int .i64 h.2] := hw1 ▸ Blk.new w _ _
  have b0_ : w1.cell? ⟨w.heap.size, 0, none⟩ = some (.int .i64 h.1) := hbx.cell 0
  have b1_ : w1.cell? ⟨w.heap.size, 1, none⟩ = some (.int .i64 h.2) := hbx.cell 1
  have bl := hbx.lt
  have hlk : ∀ m, (Instr.lookup 49 (.map (some b)) (hval h) false).run Try.prog (w1.drewN m) = .ok (.bool (decide (h ∈ hs))) (w1.drewN m) := fun m => (hp1.upd0 ((Upd.refl _ w1).drewN m)).look hh
  have c1 : w1.cell? ⟨g, 1, none⟩ = some (.map (some b)) := hp1.blk.cell 1
  have lt := hp1.blk.lt
  have HP := Lib.hid hp1
  have HU := Lib.hid hu1
  have HRM : Hid (∀ m, Calls Try.prog 19 #[.pointer (some ⟨g, 0, none⟩)] (w1.drewN m) fun e w' => e = .returned (.bool (decide ((hs.length : Int) < most))) ∧ ∃ n, w' = (w1.drewN m).drewN n) := Lib.hid (fun m => room_to _ (hp1.upd0 ((Upd.refl _ w1).drewN m)))
  clear hp hu1 hp1 hbx
  go_enter Try.func21, Try.ntmps21
  go_wp2_with fail
  clear hw1
  obtain ⟨rm, hrm⟩ : ∃ rm, decide ((hs.length : Int) < most) = rm := ⟨_, rfl⟩
  obtain ⟨cc, hcc⟩ : ∃ cc, decide (h ∈ hs) = cc := ⟨_, rfl⟩
  rw [hrm] at HRM
  simp only [hcc] at hlk
  have HA : Hid (ptakes most hs h = (rm && !cc)) := Lib.hid (by unfold ptakes; rw [hrm, hcc])
  have HN : Hid (cc = false → h ∉ hs) := Lib.hid (fun e => of_decide_eq_false (hcc.trans e))
  clear hrm hcc
  cases rm with
  | false =>
    go_quiet ((go_at_call 19; exact Calls.quiet_of (HRM.out _)))
    go_wp2
    go_ret
    refine ⟨by rw [HA.out]; rfl, ?_, (HU.out.drewN _).mono (fun _ h => h.elim)⟩
    rw [ptake, if_neg (by rw [HA.out]; simp)]
    exact (HP.out.upd0 ((Upd.refl _ w1).drewN _)).more (Nat.le_succ _)
  | true =>
    cases cc with
    | true =>
      go_quiet ((go_at_call 19; exact Calls.quiet_of (HRM.out _)))
      go_wp2
      go_ret
      refine ⟨by rw [HA.out]; rfl, ?_, (HU.out.drewN _).mono (fun _ h => h.elim)⟩
      rw [ptake, if_neg (by rw [HA.out]; simp)]
      exact (HP.out.upd0 ((Upd.refl _ w1).drewN _)).more (Nat.le_succ _)
    | false =>
      go_quiet ((go_at_call 19; exact Calls.quiet_of (HRM.out _)))
      have hp2 := HP.out.upd0 ((Upd.refl _ w1).drewN nq)
      have hu2 : Upd (fun _ => False) w (w1.drewN nq) := HU.out.drewN nq
      replace b0_ : (w1.drewN nq).cell? ⟨w.heap.size, 0, none⟩ = some (.int .i64 h.1) := b0_
      replace b1_ : (w1.drewN nq).cell? ⟨w.heap.size, 1, none⟩ = some (.int .i64 h.2) := b1_
      replace bl : w.heap.size < (w1.drewN nq).heap.size := bl
      replace c1 : (w1.drewN nq).cell? ⟨g, 1, none⟩ = some (.map (some b)) := c1
      replace lt : g < (w1.drewN nq).heap.size := lt
      clear HP HU hlk HRM
      generalize w1.drewN nq = w2 at *
      obtain ⟨hbk, n, D, hn, hm, hl⟩ := hp2
      have HM := Lib.hid hm
      have HU := Lib.hid hu2
      have hn9 : n < maxLen := by unfold maxLen; omega
      have HK := Lib.hid (hkey hh)
      have HL := Lib.hid hl
      have HB := Lib.hid hbk
      clear hbk hm hl hu2
      go_wp2_with fail
      go_still_tail 5, (by kernel_rfl)
      change wpList _ _ _ _ _ w2.drew
      go_wp2_with (at_mapUpdate; go_loud (refine wpList_put _ rfl _ _ _ 49 rfl 31 4 keyH Try.underlying49 b n D rfl HM.out hn9 (hval h) (.bool true) (hkl h) rfl rfl HK.out ?_; intro w3 hm3 hu3))
      go_ret
      have hne : g ≠ b := fun e => HM.out.ne_blk HB.out e.symm
      refine ⟨by rw [HA.out]; rfl, ?_, ?_⟩
      · rw [ptake, if_pos (by rw [HA.out]; rfl)]
        exact ⟨HB.out.drew.upd hu3 (show ¬ At b g from hne), n + 1, _, by omega, hm3, by rw [← lput_hmap]; exact HL.out.put hklit hh _⟩
      · exact (HU.out.drew.mono (S' := At b) (fun _ h => h.elim)).trans hu3 (fun _ h => .inl h)
theorem free_to {g b N : Nat} {most : Int} {hs : List H2} {h : H2} (hh : hok h) (w : World) (hp : PS w g b most N hs) : Calls Try.prog 22 #[.pointer (some ⟨g, 0, none⟩), hval h] w fun e w' => e = .returned (.bool (decide (h ∈ hs))) ∧ PS w' g b most N (hwo hs h) ∧ Upd (At b) w w' := by
  have hu1 := (Upd.refl (fun _ => False) w).alloc (.cells #[.int .i64 h.1, .int .i64 h.2] 31)
  have hbx := Blk.new w #[.int .i64 h.1, .int .i64 h.2] 31
  have HP := Lib.hid (hp.upd0 hu1)
  have HU := Lib.hid hu1
  have HBX := Lib.hid hbx
  have HH := Lib.hid hh
  clear hp hu1 hbx hh
  go_enter Try.func22, Try.ntmps22
  go_wp2_with fail
  refine (holds_to HH.out _ HP.out).mono ?_
  rintro e_ w2 ⟨rfl, hu⟩
  have hp2 := HP.out.upd0 hu
  have hbx := HBX.out.upd hu (fun h => h)
  have HU2 := Lib.hid (HU.out.trans hu (fun _ h => h.elim))
  have b0_ : w2.cell? ⟨w.heap.size, 0, none⟩ = some (.int .i64 h.1) := hbx.cell 0
  have b1_ : w2.cell? ⟨w.heap.size, 1, none⟩ = some (.int .i64 h.2) := hbx.cell 1
  have bl := hbx.lt
  have c1 : w2.cell? ⟨g, 1, none⟩ = some (.map (some b)) := hp2.blk.cell 1
  have lt := hp2.blk.lt
  clear HBX HP HU hbx hu
  have HP2 := Lib.hid hp2
  clear hp2
  by_cases hc : h ∈ hs
  · rw [decide_eq_true hc]
    obtain ⟨hbk, n, D, hn, hm, hl⟩ := HP2.out
    have HM := Lib.hid hm
    have HK := Lib.hid (hkey HH.out)
    have HL := Lib.hid hl
    have HB := Lib.hid hbk
    have HC := Lib.hid hc
    clear hbk hm hl hc
    obtain ⟨w3, hrun, hm3, hg3⟩ := World.ownsMap.drop (show w2.drew.ownsMap Try.prog 31 hv b n D from HM.out) keyH Try.underlying49 HK.out 0
    have hu3 := upd_turned hg3
    have HM3 := Lib.hid hm3
    have HU3 := Lib.hid hu3
    clear hm3 hg3 hu3
    go_wp2_with fail
    go_still_tail 5, (by kernel_rfl)
    change wpList _ _ _ _ _ w2.drew
    go_wp2
    go_ret
    have hne : g ≠ b := fun e => HM.out.ne_blk HB.out e.symm
    refine ⟨by rw [decide_eq_true HC.out]; rfl, ?_, ?_⟩
    · exact ⟨HB.out.drew.upd HU3.out (show ¬ At b g from hne), n, _, hn, HM3.out, by rw [← lwo_hmap]; exact HL.out.del hklit HH.out⟩
    · exact (HU2.out.drew.mono (S' := At b) (fun _ h => h.elim)).trans HU3.out (fun _ h => .inl h)
  · rw [decide_eq_false hc]
    have HC := Lib.hid hc
    clear hc
    go_wp2
    go_ret
    refine ⟨by rw [decide_eq_false HC.out]; rfl, ?_, HU2.out.mono (fun _ h => h.elim)⟩
    rw [hwo_none HC.out]
    exact HP2.out
end Go.Proofs.Ytkhdgdbbhbphiaa
