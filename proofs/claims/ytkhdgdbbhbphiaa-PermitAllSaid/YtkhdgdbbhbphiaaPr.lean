/- The document's functions on holders. -/
import Derived.Test.YtkhdgdbbhbphiaaPe
import Derived.Test.YtkhdgdbbhbphiaaAp
import Derived.Test.YtkhdgdbbhbphiaaKp
import Derived.Deep.RegionHeld3
import Derived.Deep.AppendLies
import Derived.BigQuiet
import Derived.Deep.QuietTactic
import Derived.LoopTactic
import Derived.Deep.CutBlock
import Derived.Deep.CutRange
namespace Go.Proofs.Ytkhdgdbbhbphiaa
open Go.RowKit
set_option linter.unusedVariables false
set_option linter.unusedSimpArgs false

def rless (a b : H2) : Bool := decide (a.1 < b.1) || (decide (a.1 = b.1) && decide (a.2 < b.2))
/-- How many are ahead of a holder. -/
def rat : List H2 → H2 → Nat
  | [], _ => 0
  | a :: l, h => if rless a h = true then rat l h + 1 else 0
theorem rat_le : ∀ (l : List H2) (h : H2), rat l h ≤ l.length
  | [], _ => Nat.le_refl _
  | a :: l, h => by
    unfold rat
    split
    · have := rat_le l h; simp; omega
    · exact Nat.zero_le _
def rtakes (l : List H2) (most : Int) (h : H2) : Bool := !(decide (most ≤ (l.length : Int)) || decide (h ∈ l))
def rtake (l : List H2) (most : Int) (h : H2) : List H2 := if rtakes l most h = true then l.take (rat l h) ++ h :: l.drop (rat l h) else l
def rfree (l : List H2) (h : H2) : List H2 := l.filter (fun x => decide (x ≠ h))
theorem made_to (h : H2) (w : World) : Calls Try.prog 12 #[hval h] w fun e w' => e = .returned (hval h) ∧ Upd (fun _ => False) w w' := by
  go_enter Try.func12, Try.ntmps12
  go_wp2
  exact bodyPost_ret (v := hval h) (by simp [results, Try.results12, go_sem]) rfl ⟨rfl, (by repeat (first | exact Upd.refl _ _ | refine Upd.alloc ?_ _ | refine Upd.drew ?_ | refine Upd.drewN ?_ _ | refine Upd.put ?_ _ _))⟩
theorem less_to (a h : H2) (w : World) : Calls Try.prog 30 #[hval a, hval h] w fun e w' => e = .returned (.bool (rless a h)) ∧ Upd (fun _ => False) w w' := by
  have HR : Hid (rless a h = (decide (a.1 < h.1) || (decide (a.1 = h.1) && decide (a.2 < h.2)))) := Lib.hid rfl
  by_cases h1 : a.1 < h.1
  · go_enter Try.func30, Try.ntmps30
    go_wp2
    go_ret
    exact ⟨by rw [HR.out]; simp [h1], (by repeat (first | exact Upd.refl _ _ | refine Upd.alloc ?_ _ | refine Upd.drew ?_ | refine Upd.drewN ?_ _ | refine Upd.put ?_ _ _))⟩
  · by_cases h2 : a.1 = h.1
    · have n2 : (a.1 == h.1) = true := by simp [h2]
      go_enter Try.func30, Try.ntmps30
      go_wp2
      go_ret
      exact ⟨by rw [HR.out]; simp [h2], (by repeat (first | exact Upd.refl _ _ | refine Upd.alloc ?_ _ | refine Upd.drew ?_ | refine Upd.drewN ?_ _ | refine Upd.put ?_ _ _))⟩
    · have n2 : (a.1 == h.1) = false := by simp [h2]
      go_enter Try.func30, Try.ntmps30
      go_wp2
      go_ret
      exact ⟨by rw [HR.out]; simp [h1, h2], (by repeat (first | exact Upd.refl _ _ | refine Upd.alloc ?_ _ | refine Upd.drew ?_ | refine Upd.drewN ?_ _ | refine Upd.put ?_ _ _))⟩
theorem rholds_to {A : Option Addr} {n c : Nat} {l : List H2} {h : H2} (hl : l.length = n) (hn : n ≤ 1000) (w : World) (hs : Sl w A n c (prs l)) : Calls Try.prog 20 #[.slice A n c, hval h] w fun e w' => e = .returned (.bool (decide (h ∈ l))) ∧ Upd (fun _ => False) w w' := by
  obtain ⟨w1, hw1⟩ : ∃ w1, w.alloc (.cells #[.int .i64 h.1, .int .i64 h.2] 24) = w1 := ⟨_, rfl⟩
  have HU1 : Hid (Upd (fun _ => False) w w1) := Lib.hid (hw1 ▸ (Upd.refl _ w).alloc _)
  have HBX : Hid (Blk w1 w.heap.size 24 #[.int .i64 h.1, .int .i64 h.2]) := Lib.hid (hw1 ▸ Blk.new w _ _)
  have HS := Lib.hid (hs.upd0 HU1.out)
  have HL := Lib.hid hl
  clear hs hl
  go_enter Try.func20, Try.ntmps20
  go_wp2_with fail
  clear hw1
  go_loopw [5] (fun iv wr => ∃ (i : Nat), i ≤ n ∧ iv = .int .i64 i ∧ Hid (h ∉ l.take i) ∧ Hid (Upd (fun _ => False) w1 wr)) (fun iv _ => n - (intOf iv).toNat)
  case atStart => exact ⟨0, Nat.zero_le _, rfl, Lib.hid (by simp), Lib.hid (Upd.refl _ _)⟩
  case round =>
    obtain ⟨i, hi, rfl, HNI, HU2⟩ := hrel
    by_cases hin : i < n
    · obtain ⟨x, hx⟩ : ∃ x, l[i]? = some x := ⟨l[i]'(by rw [HL.out]; exact hin), List.getElem?_eq_getElem _⟩
      obtain ⟨b, o, rfl, hb, c0, c1⟩ := (HS.out.upd0 HU2.out).pr hx
      have hbx := HBX.out.upd HU2.out (fun h => h)
      have b0_ : wr.cell? ⟨w.heap.size, 0, none⟩ = some (.int .i64 h.1) := hbx.cell 0
      have b1_ : wr.cell? ⟨w.heap.size, 1, none⟩ = some (.int .i64 h.2) := hbx.cell 1
      have bl := hbx.lt
      have i0 : (0 : Int) ≤ (i : Int) := Int.natCast_nonneg _
      have i1 : (i : Int) < (n : Int) := by omega
      have HX := Lib.hid hx
      have HT : Hid (l.take (i + 1) = l.take i ++ [x]) := Lib.hid (take_snoc hx)
      have HM : Hid (x ∈ l) := Lib.hid (List.mem_of_getElem? hx)
      clear hx hbx
      have heq := eqI
      have hgd := gdH
      obtain ⟨cc, hcc⟩ : ∃ cc, decide (x = h) = cc := ⟨_, rfl⟩
      have HC := Lib.hid hcc
      have heq1 := eqI x h
      rw [hcc] at heq1
      clear hcc heq
      cases cc with
      | true =>
        go_wp2_with fail
        go_quiet (fail)
        go_wp2
        go_ret
        exact ⟨by have := of_decide_eq_true HC.out; subst this; simp [HM.out], (HU1.out.trans HU2.out (fun _ h => h.elim)).drewN _⟩
      | false =>
        go_wp2_with fail
        go_quiet (fail)
        go_wp2
        go_roundw
        case rel => exact ⟨i + 1, by omega, by go_num, Lib.hid (by rw [HT.out]; have h1 := HNI.out; have h2 := of_decide_eq_false HC.out; simp [h1, Ne.symm h2]), Lib.hid (HU2.out.drewN _)⟩
        case measure => simp [intOf]; omega
    · obtain rfl : i = n := by omega
      go_wp2
      go_ret
      exact ⟨by have := HNI.out; rw [List.take_of_length_le (by rw [HL.out]; exact Nat.le_refl _)] at this; simp [this], HU1.out.trans HU2.out (fun _ h => h.elim)⟩
def e2 (x : H2) : List Value := [.int .i64 x.1, .int .i64 x.2]
theorem e2_len (x : H2) : (e2 x).length = 2 := rfl
theorem rat_drop {l : List H2} {h : H2} {k : Nat} {x : H2} (hx : l[k]? = some x) : rat (l.drop k) h = if rless x h = true then rat (l.drop (k + 1)) h + 1 else 0 := by
  have hk : k < l.length := (List.getElem?_eq_some_iff.1 hx).1
  have : l[k] = x := (List.getElem?_eq_some_iff.1 hx).2
  rw [List.drop_eq_getElem_cons hk, this, rat]
theorem prs_one (ms : List H2) : ∀ u ∈ prs ms, u.oneCell' = true := by
  intro u hu
  obtain ⟨x, _, hx⟩ := List.mem_flatMap.1 hu
  simp at hx
  rcases hx with rfl | rfl <;> rfl
theorem infoR : (Try.prog.info? 24).map (fun i => (i.zero, i.size, i.bytes)) = some (some (.agg #[.int .i64 0, .int .i64 0]), 2, 16) := by kernel_rfl
theorem Sl.one (w : World) (a b : Value) (t : TypeId) : Sl (w.alloc (.cells #[a, b] t)) (some ⟨w.heap.size, 0, none⟩) 1 1 [a, b] := by
  obtain ⟨A, cap, e, hs, _⟩ := Sl.of_own (own_blk (base := 0) (size := 2) (n := 1) (Blk.new w #[a, b] t) (Nat.zero_le _) rfl (by unfold maxLen; omega))
  injection e with e1 e2 e3
  subst e1 e3
  exact hs
theorem rtake_no {l : List H2} {most : Int} {h : H2} (hh : rtakes l most h = false) : rtake l most h = l := by unfold rtake; rw [if_neg (by rw [hh]; simp)]
theorem rtake_yes {l : List H2} {most : Int} {h : H2} (hh : rtakes l most h = true) : rtake l most h = l.take (rat l h) ++ h :: l.drop (rat l h) := by unfold rtake; rw [if_pos hh]
end Go.Proofs.Ytkhdgdbbhbphiaa
