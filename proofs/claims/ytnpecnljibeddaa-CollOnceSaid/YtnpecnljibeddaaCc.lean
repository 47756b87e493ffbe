/- A window's small functions. -/
import Derived.Test.YtnpecnljibeddaaCp
namespace Go.Proofs.Ytnpecnljibeddaa
open Go.RowKit
set_option linter.unusedVariables false
set_option linter.unusedSimpArgs false

/-- A word of 64 bits without sign. -/
def W64 (a : Int) : Prop := 0 ≤ a ∧ a ≤ 18446744073709551615
theorem w64_of {a : Int} (h : (Lit.int .u64 a).wf = true) : W64 a := by
  simp only [Lit.wf, Bool.and_eq_true, decide_eq_true_eq] at h
  exact ⟨h.1, h.2⟩
theorem sat_w {a b : Int} (ha : W64 a) (hb : W64 b) : W64 (sat a b) := by
  unfold W64 at *
  unfold sat
  split <;> omega
theorem ret_u {a b : Int} (h : a = b) : Ending.returned (.int .u64 a) = .returned (.int .u64 b) := by rw [h]

theorem radd01_to {a b r : Int} (ha : W64 a) (hb : W64 b) (hr : sat a b = r) (w : World) :
    Calls Try.prog 12 #[.int .u64 a, .int .u64 b] w fun e w' => e = .returned (.int .u64 r) ∧ w = w' := by
  obtain ⟨a0, a1⟩ := ha
  obtain ⟨b0, b1⟩ := hb
  unfold sat at hr
  have HR := Lib.hid hr
  clear hr
  go_enter Try.func12, Try.ntmps12
  go_wp2
  all_goals (go_ret; refine ⟨ret_u ?_, rfl⟩; rw [← HR.out]; split <;> omega)

theorem sat_to {a b r : Int} (ha : W64 a) (hb : W64 b) (hr : sat a b = r) (w : World) :
    Calls Try.prog 23 #[.int .u64 a, .int .u64 b] w fun e w' => e = .returned (.int .u64 r) ∧ w = w' := by
  obtain ⟨a0, a1⟩ := ha
  obtain ⟨b0, b1⟩ := hb
  unfold sat at hr
  have HR := Lib.hid hr
  clear hr
  go_enter Try.func23, Try.ntmps23
  go_wp2
  all_goals (go_ret; refine ⟨ret_u ?_, rfl⟩; rw [← HR.out]; split <;> omega)

theorem open_nil (w : World) : Calls Try.prog 19 #[.pointer none] w fun e w' => e = .returned (.bool false) ∧ w = w' := by
  go_enter Try.func19, Try.ntmps19
  go_wp2
  go_ret
  exact ⟨rfl, rfl⟩
theorem open_none {g : Nat} {x y : Value} {t : TypeId} (w : World) (h : Blk w g t #[.pointer none, x, y]) : Calls Try.prog 19 #[.pointer (some ⟨g, 0, none⟩)] w fun e w' => e = .returned (.bool false) ∧ w = w' := by
  have c0 : w.cell? ⟨g, 0, none⟩ = some (.pointer none) := h.cell 0
  go_enter Try.func19, Try.ntmps19
  go_wp2
  go_ret
  exact ⟨rfl, rfl⟩
theorem open_some {g o : Nat} {x y : Value} {t : TypeId} (w : World) (h : Blk w g t #[.pointer (some ⟨o, 0, none⟩), x, y]) : Calls Try.prog 19 #[.pointer (some ⟨g, 0, none⟩)] w fun e w' => e = .returned (.bool true) ∧ w = w' := by
  have c0 : w.cell? ⟨g, 0, none⟩ = some (.pointer (some ⟨o, 0, none⟩)) := h.cell 0
  go_enter Try.func19, Try.ntmps19
  go_wp2
  go_ret
  exact ⟨rfl, rfl⟩
/-- Open: just if something is. -/
theorem open_to {w : World} {F : Nat → Prop} {g : Nat} {p : Option Nat} {win most : Int} {s : CSt} {b : Bool} (h : IsC w F g p win most s) (hb : s.isSome = b) : Calls Try.prog 19 #[.pointer (some ⟨g, 0, none⟩)] w fun e w' => e = .returned (.bool b) ∧ w = w' := by
  subst hb
  cases s with
  | none => exact open_none w h.st.2
  | some be =>
    obtain ⟨bb, e⟩ := be
    obtain ⟨o, A, c, M, d, rfl, p1, p2, b1, b2, k1, k2⟩ := h.st
    exact open_some w b1

/-- New: none, where the window or the number of arguments may not be. -/
def cok (win most : Int) : Prop := 1 ≤ win ∧ win ≤ 1099511627776 ∧ 1 ≤ most ∧ most ≤ 4
theorem new_no {win most : Int} (h : ¬ cok win most) (w : World) : Calls Try.prog 10 #[.int .u64 win, .int .i64 most] w fun e w' => e = .returned (.pointer none) ∧ w = w' := by
  unfold cok at h
  by_cases h1 : win < 1
  · go_enter Try.func10, Try.ntmps10
    go_wp2
    go_ret
    exact ⟨rfl, rfl⟩
  · by_cases h2 : win > 1099511627776
    · go_enter Try.func10, Try.ntmps10
      go_wp2
      go_ret
      exact ⟨rfl, rfl⟩
    · by_cases h3 : most < 1
      · go_enter Try.func10, Try.ntmps10
        go_wp2
        go_ret
        exact ⟨rfl, rfl⟩
      · have h4 : most > 4 := by omega
        clear h
        go_enter Try.func10, Try.ntmps10
        go_wp2
        go_ret
        exact ⟨rfl, rfl⟩
theorem new_yes {win most : Int} (h : cok win most) (w : World) : Calls Try.prog 10 #[.int .u64 win, .int .i64 most] w fun e w' => ∃ g, e = .returned (.pointer (some ⟨g, 0, none⟩)) ∧ IsC w' (fun k => k = g) g none win most none ∧ w.heap.size ≤ g ∧ Below w.heap.size w w' := by
  obtain ⟨h1, h2, h3, h4⟩ := h
  have g1 : ¬ win < 1 := by omega
  have g2 : ¬ win > 1099511627776 := by omega
  have g3 : ¬ most < 1 := by omega
  have g4 : ¬ most > 4 := by omega
  clear h1 h2 h3 h4
  go_enter Try.func10, Try.ntmps10
  go_wp2
  go_ret
  exact ⟨w.heap.size, rfl, ⟨(fun k hk => by simp [hk]), rfl, (fun k hk => by cases hk), ⟨rfl, Blk.new _ _ _⟩⟩, Nat.le_refl _, (by refine Upd.below0 ?_; repeat (first | exact Upd.refl _ _ | refine Upd.alloc ?_ _ | refine Upd.drew ?_ | refine Upd.drewN ?_ _))⟩
end Go.Proofs.Ytnpecnljibeddaa
