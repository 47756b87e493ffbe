/- Each command is in one batch, in the turn in which they came: CollOnce returns true for every input, with no condition. -/
import Derived.Test.YtnpecnljibeddaaRows
import Derived.Test.YtnpecnljibeddaaWc
import Derived.Test.YtnpecnljibeddaaArg
import Derived.WalkKit
import Derived.ProofKit
import Derived.OpenShut
import Derived.ShutString
import Derived.ChangeOld
import Derived.Below
import Derived.SizedLaws
namespace Go.Proofs.Ytnpecnljibeddaa.collOnce
open Go.ChangeShapes Go.WideShapes Go.ChangeAt Go.RowKit
set_option linter.unusedVariables false
theorem own : ownKnob Try.prog.godebug = none := by kernel_rfl
theorem laidOut : laidOutB Try.prog = true := by kernel_rfl
set_option maxRecDepth 100000 in
theorem lifted (os : Os) (started : os.Started) (H : Type) (enc : TypeId × Value → H) :
    ReturnsInHanded {} Try.checked os 4 .any (Rows.collOnceSpec.pre6 enc Try.prog Try.f4 Rows.collOnceRow.domain false) (Rows.collOnceSpec.post enc Try.prog Try.f4 false true false false) := by
  refine returnsInHanded_of_change_sized (C := Try.checked) own started (by kernel_rfl) Try.func4
    (ChangeSpec.witness6 (enc := enc) (C := Try.checked) false ⟨#[], #[.agg #[.int .u8 0, .int .u8 0], .slice none 0 0], []⟩ 8 (by kernel_rfl) (by kernel_rfl) (by kernel_rfl) (by kernel_rfl)) ?_
  intro W base args ds gs before hval0 hW hcnd hsz0 _
  have hval : ∀ (j : Nat) t v, Try.f4.params[j]? = some t → args[j]? = some v → Value.okWide Try.prog W .any base t v := hval0
  have hW' := hW
  obtain ⟨p, q, hA0, hV, rfl, hfz, hnd⟩ := hW
  have hA : DataW.TrodAll enc Try.prog W 0 (fun _ => true) true Try.f4.params.toList args.toList ds p := hA0
  rw [Try.params4] at hA hval
  obtain ⟨v0, vs0, d0, ds0, p0, q0, hargs, rfl, rfl, h0, r0⟩ := trodAll_cons hA
  obtain ⟨v1, vs1, d1, ds1, p1, q1, rfl, rfl, rfl, h1, r1⟩ := trodAll_cons r0
  obtain ⟨rfl, rfl, rfl⟩ := trodAll_nil r1
  obtain rfl : args = #[v0, v1] := by cases args; simp_all
  obtain ⟨rfl, rfl⟩ := trodVars_none hV
  have k0 := h0
  have lt0 := lt_of_trod h0
  have o0 := (hval 0 55 v0 rfl rfl)
  obtain ⟨c0, rfl, w0⟩ := open_flat (n := 8) (l := [.int .u8, .int .u8]) (okWide_arr Try.underlying55 o0) (by kernel_rfl) h0
  have k1 := h1
  have lt1 := lt_of_trod h1
  have o1 := (hval 1 23 v1 rfl rfl)
  obtain ⟨A1, len1, cap1, L1, rfl, hL1, hlc1, hm1, hn1, hok1, hr1⟩ := open_flats' (n := 8) (l := [.int .i64, .int .i64, .int .i64, .int .u64]) Try.underlying23 o1 (by kernel_rfl) (by kernel_rfl) h1
  clear hA0 hval0 hsz0
  refine (conce_walk (w := W) c0 w0 A1 len1 cap1 L1 hL1 hlc1 hm1 hn1 hok1 hr1).mono fun e W' ⟨he, bel⟩ => ?_
  subst he
  exact ⟨_, rfl, _, _, _, [], _, [], hW', trodAll_mk1 (shut_bool Try.underlying4 _), (trodAll_cons_mk (Below.trod laidOut (by kernel_rfl) (of_decide_eq_true (by kernel_rfl)) k0 bel lt0) (trodAll_cons_mk (Below.trod laidOut (by kernel_rfl) (of_decide_eq_true (by kernel_rfl)) k1 bel lt1) trodAll_mk0)), rfl, bel.frame _, fun h => by cases h⟩
theorem over : Rows.collOnceRow.holds Try.pinned (OpenSpec.ofChange Rows.collOnceSpec) :=
  OpenClaim.holds_of_wide 4 Try.f4 rfl rfl rfl rfl rfl rfl rfl ⟨rfl, rfl, rfl, rfl, rfl⟩ rfl rfl rfl rfl rfl (by kernel_rfl) Try.func4 (by kernel_rfl)
    (of_decide_eq_true (by kernel_rfl)) (by unfold Func.isWrapper; first | (rw [if_pos (by decide +kernel)]; kernel_rfl) | (rw [if_neg (by decide +kernel)]; exact ⟨rfl, rfl⟩))
    (fun os started H enc _ => lifted os started H enc)
end Go.Proofs.Ytnpecnljibeddaa.collOnce
namespace Go.Proofs.Ytnpecnljibeddaa
/-- The row, for the claim. -/
theorem collOnce_holds : Rows.CollOnceSaid := collOnce.over
#print axioms collOnce_holds
end Go.Proofs.Ytnpecnljibeddaa
