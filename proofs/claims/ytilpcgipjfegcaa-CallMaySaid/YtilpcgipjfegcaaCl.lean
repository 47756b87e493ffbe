/- A call: Begin, Run, Fail, End. -/
import Derived.Test.YtilpcgipjfegcaaProg
import Derived.Test.YtilpcgipjfegcaaRs
import Derived.Test.YtilpcgipjfegcaaRf
import Derived.Test.YtilpcgipjfegcaaIvs
import Derived.Test.YtilpcgipjfegcaaAp
import Derived.WalkSpells
import Derived.KernelRfl
import Derived.Outline
import Derived.Deep.QuietTactic
import Derived.BigQuiet
import Derived.WalkLawsBesides
import Derived.LoopTactic
import Derived.Deep.RegionHeld3
import Derived.StillTailTactics
namespace Go.Proofs.Ytilpcgipjfegcaa
open Go.RowKit
set_option linter.unusedVariables false
set_option linter.unusedSimpArgs false

/-- A call's own numbers: state, step, cause, start. -/
abbrev Cs := Int × Int × Int × Int
def crun (c : Cs) : Cs × Bool := if c.1 = 1 then ((2, c.2.1, c.2.2.1, c.2.2.2), true) else (c, false)
def cend (c : Cs) : Cs × Bool := if c.1 < 1 ∨ 3 < c.1 then (c, false) else ((4, c.2.1, c.2.2.1, c.2.2.2), true)
def cfail (c : Cs) (cause chain : Int) : Cs × Bool :=
  if c.1 < 1 ∨ 3 < c.1 then (c, false)
  else if chain ≤ c.2.1 then ((4, c.2.1, if c.1 < 3 then cause else c.2.2.1, c.2.2.2), false)
  else ((3, wrap64 (c.2.1 + 1), if c.1 < 3 then cause else c.2.2.1, c.2.2.2), true)
set_option maxHeartbeats 1000000 in
theorem run_any (A M : Option Addr) (n c m d : Nat) (st sp cs sa : Int) {st2 sp2 cs2 sa2 : Int} {ok : Bool} (h : crun (st, sp, cs, sa) = ((st2, sp2, cs2, sa2), ok)) (w : World) :
    Calls Try.prog 18 #[.agg #[.slice A n c, .slice M m d, .int .i64 st, .int .i64 sp, .int .i64 cs, .int .u64 sa]] w fun e w' => e = .returned (.tuple #[.agg #[.slice A n c, .slice M m d, .int .i64 st2, .int .i64 sp2, .int .i64 cs2, .int .u64 sa2], .bool ok]) ∧ Below w.heap.size w w' := by
  unfold crun at h
  by_cases h1 : st = 1
  · subst h1
    simp at h
    obtain ⟨⟨rfl, rfl, rfl, rfl⟩, rfl⟩ := h
    go_enter Try.func18, Try.ntmps18
    go_wp2
    exact bodyPost_ret (v := .tuple #[.agg #[.slice A n c, .slice M m d, .int .i64 2, .int .i64 sp, .int .i64 cs, .int .u64 sa], .bool true]) (by simp [results, Try.results18, go_sem]) rfl ⟨rfl, (by refine Upd.below0 ?_; repeat (first | exact Upd.refl _ _ | refine Upd.alloc ?_ _ | refine Upd.drew ?_ | refine Upd.drewN ?_ _))⟩
  · simp [h1] at h
    obtain ⟨⟨rfl, rfl, rfl, rfl⟩, rfl⟩ := h
    have hb : (st == 1) = false := by simpa using h1
    go_enter Try.func18, Try.ntmps18
    go_wp2
    exact bodyPost_ret (v := .tuple #[.agg #[.slice A n c, .slice M m d, .int .i64 st, .int .i64 sp, .int .i64 cs, .int .u64 sa], .bool false]) (by simp [results, Try.results18, go_sem]) rfl ⟨rfl, (by refine Upd.below0 ?_; repeat (first | exact Upd.refl _ _ | refine Upd.alloc ?_ _ | refine Upd.drew ?_ | refine Upd.drewN ?_ _))⟩
set_option maxHeartbeats 1000000 in
theorem end_any (A M : Option Addr) (n c m d : Nat) (st sp cs sa : Int) {st2 sp2 cs2 sa2 : Int} {ok : Bool} (h : cend (st, sp, cs, sa) = ((st2, sp2, cs2, sa2), ok)) (w : World) :
    Calls Try.prog 21 #[.agg #[.slice A n c, .slice M m d, .int .i64 st, .int .i64 sp, .int .i64 cs, .int .u64 sa]] w fun e w' => e = .returned (.tuple #[.agg #[.slice A n c, .slice M m d, .int .i64 st2, .int .i64 sp2, .int .i64 cs2, .int .u64 sa2], .bool ok]) ∧ Below w.heap.size w w' := by
  unfold cend at h
  by_cases h1 : st < 1
  · simp [h1] at h
    obtain ⟨⟨rfl, rfl, rfl, rfl⟩, rfl⟩ := h
    go_enter Try.func21, Try.ntmps21
    go_wp2
    exact bodyPost_ret (v := .tuple #[.agg #[.slice A n c, .slice M m d, .int .i64 st, .int .i64 sp, .int .i64 cs, .int .u64 sa], .bool false]) (by simp [results, Try.results21, go_sem]) rfl ⟨rfl, (by refine Upd.below0 ?_; repeat (first | exact Upd.refl _ _ | refine Upd.alloc ?_ _ | refine Upd.drew ?_ | refine Upd.drewN ?_ _))⟩
  · by_cases h2 : 3 < st
    · simp [h2] at h
      obtain ⟨⟨rfl, rfl, rfl, rfl⟩, rfl⟩ := h
      go_enter Try.func21, Try.ntmps21
      go_wp2
      exact bodyPost_ret (v := .tuple #[.agg #[.slice A n c, .slice M m d, .int .i64 st, .int .i64 sp, .int .i64 cs, .int .u64 sa], .bool false]) (by simp [results, Try.results21, go_sem]) rfl ⟨rfl, (by refine Upd.below0 ?_; repeat (first | exact Upd.refl _ _ | refine Upd.alloc ?_ _ | refine Upd.drew ?_ | refine Upd.drewN ?_ _))⟩
    · rw [if_neg (by simp only; omega)] at h
      simp only [Prod.mk.injEq] at h
      obtain ⟨⟨rfl, rfl, rfl, rfl⟩, rfl⟩ := h
      go_enter Try.func21, Try.ntmps21
      go_wp2
      exact bodyPost_ret (v := .tuple #[.agg #[.slice A n c, .slice M m d, .int .i64 4, .int .i64 sp, .int .i64 cs, .int .u64 sa], .bool true]) (by simp [results, Try.results21, go_sem]) rfl ⟨rfl, (by refine Upd.below0 ?_; repeat (first | exact Upd.refl _ _ | refine Upd.alloc ?_ _ | refine Upd.drew ?_ | refine Upd.drewN ?_ _))⟩
set_option maxHeartbeats 1000000 in
theorem fail_any (A M : Option Addr) (n c m d : Nat) (st sp cs sa x chain : Int) {st2 sp2 cs2 sa2 : Int} {ok : Bool} (h : cfail (st, sp, cs, sa) x chain = ((st2, sp2, cs2, sa2), ok)) (w : World) :
    Calls Try.prog 16 #[.agg #[.slice A n c, .slice M m d, .int .i64 st, .int .i64 sp, .int .i64 cs, .int .u64 sa], .int .i64 x, .int .i64 chain] w fun e w' => e = .returned (.tuple #[.agg #[.slice A n c, .slice M m d, .int .i64 st2, .int .i64 sp2, .int .i64 cs2, .int .u64 sa2], .bool ok]) ∧ Below w.heap.size w w' := by
  unfold cfail at h
  by_cases h1 : st = 1 ∨ st = 2
  · rw [if_neg (by simp only; omega)] at h
    by_cases h2 : chain ≤ sp
    · rw [if_pos h2] at h
      simp only [Prod.mk.injEq] at h
      obtain ⟨⟨rfl, rfl, rfl, rfl⟩, rfl⟩ := h
      rw [if_pos (by omega)]
      rcases h1 with rfl | rfl
      all_goals
        go_enter Try.func16, Try.ntmps16
        go_wp2
        exact bodyPost_ret (v := .tuple #[.agg #[.slice A n c, .slice M m d, .int .i64 4, .int .i64 sp, .int .i64 x, .int .u64 sa], .bool false]) (by simp [results, Try.results16, go_sem]) rfl ⟨rfl, (by refine Upd.below0 ?_; repeat (first | exact Upd.refl _ _ | refine Upd.alloc ?_ _ | refine Upd.drew ?_ | refine Upd.drewN ?_ _))⟩
    · rw [if_neg h2] at h
      simp only [Prod.mk.injEq] at h
      obtain ⟨⟨rfl, rfl, rfl, rfl⟩, rfl⟩ := h
      rw [if_pos (by omega)]
      have h3 : ¬ sp ≥ chain := h2
      rcases h1 with rfl | rfl
      all_goals
        go_enter Try.func16, Try.ntmps16
        go_wp2
        exact bodyPost_ret (v := .tuple #[.agg #[.slice A n c, .slice M m d, .int .i64 3, .int .i64 (wrap64 (sp + 1)), .int .i64 x, .int .u64 sa], .bool true]) (by simp [results, Try.results16, go_sem]) rfl ⟨rfl, (by refine Upd.below0 ?_; repeat (first | exact Upd.refl _ _ | refine Upd.alloc ?_ _ | refine Upd.drew ?_ | refine Upd.drewN ?_ _))⟩
  · by_cases h4 : st = 3
    · subst h4
      rw [if_neg (by simp only; omega)] at h
      by_cases h2 : chain ≤ sp
      · rw [if_pos h2] at h
        simp only [Prod.mk.injEq] at h
        obtain ⟨⟨rfl, rfl, rfl, rfl⟩, rfl⟩ := h
        rw [if_neg (by omega)]
        go_enter Try.func16, Try.ntmps16
        go_wp2
        exact bodyPost_ret (v := .tuple #[.agg #[.slice A n c, .slice M m d, .int .i64 4, .int .i64 sp, .int .i64 cs, .int .u64 sa], .bool false]) (by simp [results, Try.results16, go_sem]) rfl ⟨rfl, (by refine Upd.below0 ?_; repeat (first | exact Upd.refl _ _ | refine Upd.alloc ?_ _ | refine Upd.drew ?_ | refine Upd.drewN ?_ _))⟩
      · rw [if_neg h2] at h
        simp only [Prod.mk.injEq] at h
        obtain ⟨⟨rfl, rfl, rfl, rfl⟩, rfl⟩ := h
        rw [if_neg (by omega)]
        have h3 : ¬ sp ≥ chain := h2
        go_enter Try.func16, Try.ntmps16
        go_wp2
        exact bodyPost_ret (v := .tuple #[.agg #[.slice A n c, .slice M m d, .int .i64 3, .int .i64 (wrap64 (sp + 1)), .int .i64 cs, .int .u64 sa], .bool true]) (by simp [results, Try.results16, go_sem]) rfl ⟨rfl, (by refine Upd.below0 ?_; repeat (first | exact Upd.refl _ _ | refine Upd.alloc ?_ _ | refine Upd.drew ?_ | refine Upd.drewN ?_ _))⟩
    · rw [if_pos (by simp only; omega)] at h
      simp only [Prod.mk.injEq] at h
      obtain ⟨⟨rfl, rfl, rfl, rfl⟩, rfl⟩ := h
      have e1 : (st == 1) = false := by simp; omega
      have e2 : (st == 2) = false := by simp; omega
      have e3 : (st == 3) = false := by simp; omega
      have e4 : st < 1 ∨ 3 < st := by omega
      clear h1
      rcases e4 with e4 | e4
      all_goals
        go_enter Try.func16, Try.ntmps16
        go_wp2
        exact bodyPost_ret (v := .tuple #[.agg #[.slice A n c, .slice M m d, .int .i64 st, .int .i64 sp, .int .i64 cs, .int .u64 sa], .bool false]) (by simp [results, Try.results16, go_sem]) rfl ⟨rfl, (by refine Upd.below0 ?_; repeat (first | exact Upd.refl _ _ | refine Upd.alloc ?_ _ | refine Upd.drew ?_ | refine Upd.drewN ?_ _))⟩
theorem begin_any (A M : Option Addr) (n c m d : Nat) (now : Int) (w : World) :
    Calls Try.prog 15 #[.agg #[.slice A n c, .slice M m d], .int .u64 now] w fun e w' => e = .returned (.agg #[.slice A n c, .slice M m d, .int .i64 1, .int .i64 0, .int .i64 0, .int .u64 now]) ∧ Below w.heap.size w w' := by
  go_enter Try.func15, Try.ntmps15
  go_wp2
  exact bodyPost_ret (v := .agg #[.slice A n c, .slice M m d, .int .i64 1, .int .i64 0, .int .i64 0, .int .u64 now]) (by simp [results, Try.results15, go_sem]) rfl ⟨rfl, (by refine Upd.below0 ?_; repeat (first | exact Upd.refl _ _ | refine Upd.alloc ?_ _ | refine Upd.drew ?_ | refine Upd.drewN ?_ _))⟩
set_option maxHeartbeats 1000000 in
theorem rrun_any (A M : Option Addr) (n c m d : Nat) (st sp cs sa : Int) {st2 sp2 cs2 sa2 : Int} {ok : Bool} (h : crun (st, sp, cs, sa) = ((st2, sp2, cs2, sa2), ok)) (w : World) :
    Calls Try.prog 19 #[.agg #[.slice A n c, .slice M m d, .int .i64 st, .int .i64 sp, .int .i64 cs, .int .u64 sa]] w fun e w' => e = .returned (.tuple #[.agg #[.slice A n c, .slice M m d, .int .i64 st2, .int .i64 sp2, .int .i64 cs2, .int .u64 sa2], .bool ok]) ∧ Below w.heap.size w w' := by
  unfold crun at h
  by_cases h1 : st = 1
  · subst h1
    simp at h
    obtain ⟨⟨rfl, rfl, rfl, rfl⟩, rfl⟩ := h
    go_enter Try.func19, Try.ntmps19
    go_wp2
    exact bodyPost_ret (v := .tuple #[.agg #[.slice A n c, .slice M m d, .int .i64 2, .int .i64 sp, .int .i64 cs, .int .u64 sa], .bool true]) (by simp [results, Try.results19, go_sem]) rfl ⟨rfl, (by refine Upd.below0 ?_; repeat (first | exact Upd.refl _ _ | refine Upd.alloc ?_ _ | refine Upd.drew ?_ | refine Upd.drewN ?_ _))⟩
  · simp [h1] at h
    obtain ⟨⟨rfl, rfl, rfl, rfl⟩, rfl⟩ := h
    have hb : (st == 1) = false := by simpa using h1
    go_enter Try.func19, Try.ntmps19
    go_wp2
    exact bodyPost_ret (v := .tuple #[.agg #[.slice A n c, .slice M m d, .int .i64 st, .int .i64 sp, .int .i64 cs, .int .u64 sa], .bool false]) (by simp [results, Try.results19, go_sem]) rfl ⟨rfl, (by refine Upd.below0 ?_; repeat (first | exact Upd.refl _ _ | refine Upd.alloc ?_ _ | refine Upd.drew ?_ | refine Upd.drewN ?_ _))⟩
set_option maxHeartbeats 1000000 in
theorem rend_any (A M : Option Addr) (n c m d : Nat) (st sp cs sa : Int) {st2 sp2 cs2 sa2 : Int} {ok : Bool} (h : cend (st, sp, cs, sa) = ((st2, sp2, cs2, sa2), ok)) (w : World) :
    Calls Try.prog 22 #[.agg #[.slice A n c, .slice M m d, .int .i64 st, .int .i64 sp, .int .i64 cs, .int .u64 sa]] w fun e w' => e = .returned (.tuple #[.agg #[.slice A n c, .slice M m d, .int .i64 st2, .int .i64 sp2, .int .i64 cs2, .int .u64 sa2], .bool ok]) ∧ Below w.heap.size w w' := by
  unfold cend at h
  by_cases h1 : st < 1
  · simp [h1] at h
    obtain ⟨⟨rfl, rfl, rfl, rfl⟩, rfl⟩ := h
    go_enter Try.func22, Try.ntmps22
    go_wp2
    exact bodyPost_ret (v := .tuple #[.agg #[.slice A n c, .slice M m d, .int .i64 st, .int .i64 sp, .int .i64 cs, .int .u64 sa], .bool false]) (by simp [results, Try.results22, go_sem]) rfl ⟨rfl, (by refine Upd.below0 ?_; repeat (first | exact Upd.refl _ _ | refine Upd.alloc ?_ _ | refine Upd.drew ?_ | refine Upd.drewN ?_ _))⟩
  · by_cases h2 : 3 < st
    · simp [h2] at h
      obtain ⟨⟨rfl, rfl, rfl, rfl⟩, rfl⟩ := h
      go_enter Try.func22, Try.ntmps22
      go_wp2
      exact bodyPost_ret (v := .tuple #[.agg #[.slice A n c, .slice M m d, .int .i64 st, .int .i64 sp, .int .i64 cs, .int .u64 sa], .bool false]) (by simp [results, Try.results22, go_sem]) rfl ⟨rfl, (by refine Upd.below0 ?_; repeat (first | exact Upd.refl _ _ | refine Upd.alloc ?_ _ | refine Upd.drew ?_ | refine Upd.drewN ?_ _))⟩
    · rw [if_neg (by simp only; omega)] at h
      simp only [Prod.mk.injEq] at h
      obtain ⟨⟨rfl, rfl, rfl, rfl⟩, rfl⟩ := h
      go_enter Try.func22, Try.ntmps22
      go_wp2
      exact bodyPost_ret (v := .tuple #[.agg #[.slice A n c, .slice M m d, .int .i64 4, .int .i64 sp, .int .i64 cs, .int .u64 sa], .bool true]) (by simp [results, Try.results22, go_sem]) rfl ⟨rfl, (by refine Upd.below0 ?_; repeat (first | exact Upd.refl _ _ | refine Upd.alloc ?_ _ | refine Upd.drew ?_ | refine Upd.drewN ?_ _))⟩
set_option maxHeartbeats 1000000 in
theorem rfail_any (A M : Option Addr) (n c m d : Nat) (st sp cs sa x chain : Int) {st2 sp2 cs2 sa2 : Int} {ok : Bool} (h : cfail (st, sp, cs, sa) x chain = ((st2, sp2, cs2, sa2), ok)) (w : World) :
    Calls Try.prog 20 #[.agg #[.slice A n c, .slice M m d, .int .i64 st, .int .i64 sp, .int .i64 cs, .int .u64 sa], .int .i64 x, .int .i64 chain] w fun e w' => e = .returned (.tuple #[.agg #[.slice A n c, .slice M m d, .int .i64 st2, .int .i64 sp2, .int .i64 cs2, .int .u64 sa2], .bool ok]) ∧ Below w.heap.size w w' := by
  unfold cfail at h
  by_cases h1 : st = 1 ∨ st = 2
  · rw [if_neg (by simp only; omega)] at h
    by_cases h2 : chain ≤ sp
    · rw [if_pos h2] at h
      simp only [Prod.mk.injEq] at h
      obtain ⟨⟨rfl, rfl, rfl, rfl⟩, rfl⟩ := h
      rw [if_pos (by omega)]
      rcases h1 with rfl | rfl
      all_goals
        go_enter Try.func20, Try.ntmps20
        go_wp2
        exact bodyPost_ret (v := .tuple #[.agg #[.slice A n c, .slice M m d, .int .i64 4, .int .i64 sp, .int .i64 x, .int .u64 sa], .bool false]) (by simp [results, Try.results20, go_sem]) rfl ⟨rfl, (by refine Upd.below0 ?_; repeat (first | exact Upd.refl _ _ | refine Upd.alloc ?_ _ | refine Upd.drew ?_ | refine Upd.drewN ?_ _))⟩
    · rw [if_neg h2] at h
      simp only [Prod.mk.injEq] at h
      obtain ⟨⟨rfl, rfl, rfl, rfl⟩, rfl⟩ := h
      rw [if_pos (by omega)]
      have h3 : ¬ sp ≥ chain := h2
      rcases h1 with rfl | rfl
      all_goals
        go_enter Try.func20, Try.ntmps20
        go_wp2
        exact bodyPost_ret (v := .tuple #[.agg #[.slice A n c, .slice M m d, .int .i64 3, .int .i64 (wrap64 (sp + 1)), .int .i64 x, .int .u64 sa], .bool true]) (by simp [results, Try.results20, go_sem]) rfl ⟨rfl, (by refine Upd.below0 ?_; repeat (first | exact Upd.refl _ _ | refine Upd.alloc ?_ _ | refine Upd.drew ?_ | refine Upd.drewN ?_ _))⟩
  · by_cases h4 : st = 3
    · subst h4
      rw [if_neg (by simp only; omega)] at h
      by_cases h2 : chain ≤ sp
      · rw [if_pos h2] at h
        simp only [Prod.mk.injEq] at h
        obtain ⟨⟨rfl, rfl, rfl, rfl⟩, rfl⟩ := h
        rw [if_neg (by omega)]
        go_enter Try.func20, Try.ntmps20
        go_wp2
        exact bodyPost_ret (v := .tuple #[.agg #[.slice A n c, .slice M m d, .int .i64 4, .int .i64 sp, .int .i64 cs, .int .u64 sa], .bool false]) (by simp [results, Try.results20, go_sem]) rfl ⟨rfl, (by refine Upd.below0 ?_; repeat (first | exact Upd.refl _ _ | refine Upd.alloc ?_ _ | refine Upd.drew ?_ | refine Upd.drewN ?_ _))⟩
      · rw [if_neg h2] at h
        simp only [Prod.mk.injEq] at h
        obtain ⟨⟨rfl, rfl, rfl, rfl⟩, rfl⟩ := h
        rw [if_neg (by omega)]
        have h3 : ¬ sp ≥ chain := h2
        go_enter Try.func20, Try.ntmps20
        go_wp2
        exact bodyPost_ret (v := .tuple #[.agg #[.slice A n c, .slice M m d, .int .i64 3, .int .i64 (wrap64 (sp + 1)), .int .i64 cs, .int .u64 sa], .bool true]) (by simp [results, Try.results20, go_sem]) rfl ⟨rfl, (by refine Upd.below0 ?_; repeat (first | exact Upd.refl _ _ | refine Upd.alloc ?_ _ | refine Upd.drew ?_ | refine Upd.drewN ?_ _))⟩
    · rw [if_pos (by simp only; omega)] at h
      simp only [Prod.mk.injEq] at h
      obtain ⟨⟨rfl, rfl, rfl, rfl⟩, rfl⟩ := h
      have e1 : (st == 1) = false := by simp; omega
      have e2 : (st == 2) = false := by simp; omega
      have e3 : (st == 3) = false := by simp; omega
      have e4 : st < 1 ∨ 3 < st := by omega
      clear h1
      rcases e4 with e4 | e4
      all_goals
        go_enter Try.func20, Try.ntmps20
        go_wp2
        exact bodyPost_ret (v := .tuple #[.agg #[.slice A n c, .slice M m d, .int .i64 st, .int .i64 sp, .int .i64 cs, .int .u64 sa], .bool false]) (by simp [results, Try.results20, go_sem]) rfl ⟨rfl, (by refine Upd.below0 ?_; repeat (first | exact Upd.refl _ _ | refine Upd.alloc ?_ _ | refine Upd.drew ?_ | refine Upd.drewN ?_ _))⟩
theorem rbegin_any (A M : Option Addr) (n c m d : Nat) (now : Int) (w : World) :
    Calls Try.prog 23 #[.agg #[.slice A n c, .slice M m d], .int .u64 now] w fun e w' => e = .returned (.agg #[.slice A n c, .slice M m d, .int .i64 1, .int .i64 0, .int .i64 0, .int .u64 now]) ∧ Below w.heap.size w w' := by
  go_enter Try.func23, Try.ntmps23
  go_wp2
  exact bodyPost_ret (v := .agg #[.slice A n c, .slice M m d, .int .i64 1, .int .i64 0, .int .i64 0, .int .u64 now]) (by simp [results, Try.results23, go_sem]) rfl ⟨rfl, (by refine Upd.below0 ?_; repeat (first | exact Upd.refl _ _ | refine Upd.alloc ?_ _ | refine Upd.drew ?_ | refine Upd.drewN ?_ _))⟩
end Go.Proofs.Ytilpcgipjfegcaa
