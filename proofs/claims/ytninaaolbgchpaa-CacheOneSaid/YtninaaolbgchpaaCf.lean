/- The cache's small functions. -/
import Derived.Test.YtninaaolbgchpaaCs
import Derived.LoopTactic
namespace Go.Proofs.Ytninaaolbgchpaa
open Go.RowKit
open Go.Maps (Keyed IsMap Tidy)
set_option linter.unusedVariables false
set_option linter.unusedSimpArgs false

theorem cnew_to (w : World) : Calls Try.prog 10 #[] w fun e w' => ∃ g bk bj, e = .returned (.pointer (some ⟨g, 0, none⟩)) ∧ CS w' w.heap.size g bk bj (fun k => k = bk ∨ k = bj) [] [] 0 ∧ Upd (fun _ => False) w w' := by
  have hmm := @run_makeMap Try.prog
  go_enter Try.func10, Try.ntmps10
  go_wp2
  go_ret
  refine ⟨w.heap.size + 1 + 1, w.heap.size, w.heap.size + 1, rfl, ⟨Blk.new2 w _ _ _ _, by omega, .inl rfl, .inr rfl, fun k hk => by simp; omega, by omega, by omega, (fun e h => by cases h), Nat.le_refl _, ⟨0, .map [], [], Nat.le_refl _, ((Mp.made w _ _).alloc _).alloc _, rfl, Lk.nil, (fun p h => by cases h)⟩, ⟨0, .map [], [], Nat.le_refl _, ?_, Lk.nil, ⟨(fun id v h => by cases h), (fun id _ => rfl), (fun id id' v v' b h => by cases h)⟩⟩⟩, (by repeat (first | exact Upd.refl _ _ | refine Upd.alloc ?_ _ | refine Upd.drew ?_ | refine Upd.drewN ?_ _ | refine Upd.put ?_ _ _))⟩
  have := (Mp.made (w.alloc (.map #[] 0)) Try.prog 3).alloc (.cells #[.map (some w.heap.size), .map (some (w.heap.size + 1))] 61)
  simpa using this
theorem len_nil (w : World) : Calls Try.prog 12 #[.pointer none] w fun e w' => e = .returned (.int .i64 0) ∧ Upd (fun _ => False) w w' := by
  go_enter Try.func12, Try.ntmps12
  go_wp2
  go_ret
  exact ⟨rfl, (by repeat (first | exact Upd.refl _ _ | refine Upd.alloc ?_ _ | refine Upd.drew ?_ | refine Upd.drewN ?_ _ | refine Upd.put ?_ _ _))⟩
theorem len_to {base g bk bj N : Nat} {F : Nat → Prop} {E : List En} {J : List J2} (w : World) (hp : CS w base g bk bj F E J N) : Calls Try.prog 12 #[.pointer (some ⟨g, 0, none⟩)] w fun e w' => e = .returned (.int .i64 (E.length : Int)) ∧ Upd (fun _ => False) w w' := by
  have hl := fun ty => hp.len ty
  have c1 : w.cell? ⟨g, 0, none⟩ = some (.map (some bk)) := hp.blk.cell 0
  have lt := hp.blk.lt
  clear hp
  go_enter Try.func12, Try.ntmps12
  go_wp2
  go_ret
  exact ⟨rfl, (by repeat (first | exact Upd.refl _ _ | refine Upd.alloc ?_ _ | refine Upd.drew ?_ | refine Upd.drewN ?_ _ | refine Upd.put ?_ _ _))⟩
theorem key_to (k : K3) (w : World) : Calls Try.prog 16 #[kval k] w fun e w' => e = .returned (kval k) ∧ Upd (fun _ => False) w w' := by
  go_enter Try.func16, Try.ntmps16
  go_wp2
  exact bodyPost_ret (v := kval k) (by simp [results, Try.results16, go_sem]) rfl ⟨rfl, (by repeat (first | exact Upd.refl _ _ | refine Upd.alloc ?_ _ | refine Upd.drew ?_ | refine Upd.drewN ?_ _ | refine Upd.put ?_ _ _))⟩
theorem told_to (k : K3) (w : World) : Calls Try.prog 18 #[kval k] w fun e w' => e = .returned (kval k) ∧ Upd (fun _ => False) w w' := by
  go_enter Try.func18, Try.ntmps18
  go_wp2
  exact bodyPost_ret (v := kval k) (by simp [results, Try.results18, go_sem]) rfl ⟨rfl, (by repeat (first | exact Upd.refl _ _ | refine Upd.alloc ?_ _ | refine Upd.drew ?_ | refine Upd.drewN ?_ _ | refine Upd.put ?_ _ _))⟩
set_option maxHeartbeats 1000000 in
theorem same_to {A B : Option Addr} {n c d : Nat} {l : List Int} (hl : l.length = n) (hn : n ≤ 1000) (w : World) (ha : Sl w A n c (nums l)) (hb : Sl w B n d (nums l)) : Calls Try.prog 19 #[.slice A n c, .slice B n d] w fun e w' => e = .returned (.bool true) ∧ Upd (fun _ => False) w w' := by
  have HA := Lib.hid ha
  have HB := Lib.hid hb
  have HL := Lib.hid hl
  clear ha hb hl
  go_enter Try.func19, Try.ntmps19
  go_wp2_with fail
  go_loopw [5] (fun iv wr => ∃ (k : Nat), k ≤ n ∧ iv = .int .i64 k ∧ Hid (Upd (fun _ => False) w wr)) (fun iv _ => n - (intOf iv).toNat)
  case atStart => exact ⟨0, Nat.zero_le _, rfl, Lib.hid (Upd.refl _ _)⟩
  case round =>
    obtain ⟨k, hk, rfl, HU⟩ := hrel
    by_cases hkn : k < n
    · obtain ⟨x, hx⟩ : ∃ x, l[k]? = some x := ⟨l[k]'(by rw [HL.out]; exact hkn), List.getElem?_eq_getElem _⟩
      obtain ⟨b1, o1, rfl, hb1, c0⟩ := (HA.out.upd0 HU.out).num hx
      obtain ⟨b2, o2, rfl, hb2, d0⟩ := (HB.out.upd0 HU.out).num hx
      have i0 : (0 : Int) ≤ (k : Int) := Int.natCast_nonneg _
      have i1 : (k : Int) < (n : Int) := by omega
      clear hx
      go_wp2_with fail
      go_quiet (fail)
      go_wp2
      go_roundw
      case rel => exact ⟨k + 1, by omega, by go_num, Lib.hid (HU.out.drewN _)⟩
      case measure => simp [intOf]; omega
    · obtain rfl : k = n := by omega
      go_wp2
      go_ret
      exact ⟨rfl, HU.out⟩
/-- What Close strikes. -/
theorem del_to (s : Int) (k : K3) (e : Value) (id : Int) (p : Option Addr) (he : e = .agg #[.int .i64 id, .pointer p]) (w : World) (b : Nat) (hb : w.cell? ⟨b, 0, none⟩ = some (.int .i64 s)) (hlt : b < w.heap.size) : Calls Try.prog 24 #[kval k, e, .pointer (some ⟨b, 0, none⟩)] w fun e w' => e = .returned (.bool (decide (k.1 = s))) ∧ Upd (fun _ => False) w w' := by
  subst he
  go_enter Try.func24, Try.ntmps24
  go_wp2
  go_ret
  exact ⟨rfl, (by repeat (first | exact Upd.refl _ _ | refine Upd.alloc ?_ _ | refine Upd.drew ?_ | refine Upd.drewN ?_ _ | refine Upd.put ?_ _ _))⟩
end Go.Proofs.Ytninaaolbgchpaa
