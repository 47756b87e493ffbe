/- Outcomes: what may be; a new log; a row copied. -/
import Derived.Test.YtmpacmjlpkhgoaaProg
import Derived.Test.YtmpacmjlpkhgoaaPl
import Derived.Test.YtmpacmjlpkhgoaaMp
import Derived.Test.YtmpacmjlpkhgoaaAp
import Derived.WalkSpells
import Derived.KernelRfl
import Derived.Outline
import Derived.Deep.QuietTactic
import Derived.BigQuiet
import Derived.WalkLawsBesides
import Derived.StillTailTactics
import Derived.LoopTactic
namespace Go.Proofs.Ytmpacmjlpkhgoaa
open Go.RowKit
open Go.Maps (Keyed IsMap Tidy)
set_option linter.unusedVariables false
set_option linter.unusedSimpArgs false

theorem ret_i {a b : Int} (h : a = b) : Ending.returned (.int .i64 a) = .returned (.int .i64 b) := by rw [h]
theorem ret_b {a b : Bool} (h : a = b) : Ending.returned (.bool a) = .returned (.bool b) := by rw [h]

set_option maxHeartbeats 400000 in
theorem may_any (id kd cs vl at_ : Int) (w : World) : Calls Try.prog 15 #[.agg #[.int .i64 id, .int .i64 kd, .int .i64 cs, .int .i64 vl, .int .u64 at_]] w fun e w' => e = .returned (.bool (omay (id, kd, cs, vl, at_))) ∧ Below w.heap.size w w' := by
  go_enter Try.func15, Try.ntmps15
  go_wp2
  all_goals (go_ret; refine ⟨ret_b ?_, (by refine Upd.below0 ?_; repeat (first | exact Upd.refl _ _ | refine Upd.alloc ?_ _ | refine Upd.drew ?_ | refine Upd.drewN ?_ _))⟩; unfold omay; simp_all <;> first | rfl | omega)

set_option maxHeartbeats 400000 in
theorem rmay_any (id kd cs vl at_ : Int) (w : World) : Calls Try.prog 16 #[.agg #[.int .i64 id, .int .i64 kd, .int .i64 cs, .int .i64 vl, .int .u64 at_]] w fun e w' => e = .returned (.bool (omay (id, kd, cs, vl, at_))) ∧ Below w.heap.size w w' := by
  go_enter Try.func16, Try.ntmps16
  go_wp2
  all_goals (go_ret; refine ⟨ret_b ?_, (by refine Upd.below0 ?_; repeat (first | exact Upd.refl _ _ | refine Upd.alloc ?_ _ | refine Upd.drew ?_ | refine Upd.drewN ?_ _))⟩; unfold omay; simp_all <;> first | rfl | omega)

theorem infoO : (Try.prog.info? 29).map (fun i => (i.zero, i.size, i.bytes)) = some (some (.agg #[.int .i64 0, .int .i64 0, .int .i64 0, .int .i64 0, .int .u64 0]), 5, 40) := by kernel_rfl
theorem keyI : Keyed Try.prog 3 := Maps.int_keyed Try.underlying3
theorem zeroI (w : World) : (zeroValue 3).run Try.prog w = .ok (.int .i64 0) w := by kernel_rfl
theorem o5_one (l : List O5) : ∀ u ∈ fl o5 l, u.oneCell' = true := by
  intro u hu
  obtain ⟨a, _, hm⟩ := fl_mem hu
  simp [o5] at hm
  rcases hm with rfl | rfl | rfl | rfl | rfl <;> rfl

set_option maxHeartbeats 1000000 in
/-- A row copied: the same, in a block of its own. -/
theorem clone_any (A : Option Addr) (n cap : Nat) (l : List O5) (hl : l.length = n) (hn : n ≤ 1000) (w : World) (hs : Sl w A n cap (fl o5 l)) :
    Calls Try.prog 21 #[.slice A n cap] w fun e w' => ∃ v, e = .returned v ∧ w'.ownsRow w.heap.size 29 5 v n (fl o5 l) ∧ Upd (fun _ => False) w w' := by
  obtain ⟨i0, hj, hz0, hz1, hz2⟩ := info_parts infoO
  have HS := Lib.hid hs
  have HL := Lib.hid hl
  clear hs hl
  have hsn := fun (w : World) (a : Option Addr) (n c : Nat) => Lib.run_eql_slice_nil (P := Try.prog) w 22 29 a n c 0 0 Try.underlying22
  cases A with
  | none =>
    obtain ⟨rfl, rfl⟩ := HS.out.nil rfl
    go_enter Try.func21, Try.ntmps21
    go_wp2
    go_ret
    refine ⟨_, rfl, ?_, Upd.refl _ _⟩
    obtain rfl : l = [] := List.eq_nil_of_length_eq_zero HL.out
    exact own_nil _ _ _ _
  | some ad =>
    go_enter Try.func21, Try.ntmps21
    go_wp2_with (at_builtin; refine wpList_plain rfl (fun K' hK' => ?_); refine wp_append_fresh (.tmp 5) (.tmp 6) _ rfl w.heap.size 29 i0 (.agg #[.int .i64 0, .int .i64 0, .int .i64 0, .int .i64 0, .int .u64 0]) 5 40 Try.underlying22 hj hz0 hz1 hz2 rfl (by decide) w.heap.size rfl (own_empty (Blk.new _ _ _) (Nat.le_refl _)) (some ad) n cap (fl o5 l) rfl ?c1 ?c2 ?c3 (o5_one l) ?c4 ?c5 ?c6 ?_; (case c1 => exact (fun h => by cases h)); (case c2 => rw [fl_len o5_len, HL.out]); (case c3 => exact (HS.out.alloc _).holds); (case c4 => unfold maxLen; omega); (case c5 => omega); (case c6 => simp); intro v' w' ho hu; refine hK' _ _ ?_; have HO := Lib.hid ho; have HU : Hid (Upd (fun _ => False) w w') := Lib.hid (((Upd.refl (fun _ => False) w).alloc _).trans hu (fun _ h => h.elim)); clear ho hu)
    go_ret
    exact ⟨_, rfl, HO.out, HU.out⟩
end Go.Proofs.Ytmpacmjlpkhgoaa
