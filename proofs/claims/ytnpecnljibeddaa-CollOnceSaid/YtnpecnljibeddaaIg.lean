/- A region that draws its order, one operation of which stores: whichever comes last. -/
import Derived.Test.YtnpecnljibeddaaIvs
namespace Go.Proofs.Ytnpecnljibeddaa
open Go.RowKit
set_option linter.unusedVariables false
set_option linter.unusedSimpArgs false

/-- The region's form: nobody is guarded, operation m yields nothing, all others into slots of their own; each waits for earlier ones alone. -/
def regionFormG (ops : Array Oper) (m n : Nat) : Bool :=
  decide (m < ops.size) &&
  (List.range ops.size).all (fun i => match ops[i]? with
    | none => false
    | some o => o.guard.isNone && o.after.all (fun e => !Region.binds .any e || decide (e.on < i)) &&
      (if i = m then o.dst.isNone else match o.dst with
        | none => false
        | some k => decide (k < n) && (List.range ops.size).all fun j => j == i || match ops[j]? with
          | none => true
          | some o' => o'.dst != some k))
section
variable {P : Program} {ops : Array Oper} {Q : Exit → Act → World → Prop}
theorem formG_at {m n : Nat} (h : regionFormG ops m n = true) {i : Nat} {o : Oper} (ho : ops[i]? = some o) :
    o.guard = none ∧ (∀ e ∈ o.after, Region.binds .any e = true → e.on < i) ∧ (i = m → o.dst = none) ∧ (i ≠ m → ∃ k, o.dst = some k ∧ k < n ∧ ∀ j o', j ≠ i → ops[j]? = some o' → o'.dst ≠ some k) := by
  unfold regionFormG at h
  simp only [Bool.and_eq_true, decide_eq_true_eq, List.all_eq_true, List.mem_range] at h
  have hi := (Array.getElem?_eq_some_iff.1 ho).1
  have h1 := h.2 i hi
  rw [ho] at h1
  simp only [Bool.and_eq_true] at h1
  obtain ⟨⟨hg, ha⟩, hr⟩ := h1
  refine ⟨by simpa using hg, fun e he hb => ?_, fun hl => ?_, fun hl => ?_⟩
  · have := Array.all_eq_true_iff_forall_mem.1 ha e he
    simpa [hb] using this
  · rw [if_pos hl] at hr
    simpa using hr
  · rw [if_neg hl] at hr
    split at hr
    · cases hr
    · rename_i k hk
      simp only [Bool.and_eq_true, decide_eq_true_eq, List.all_eq_true, List.mem_range] at hr
      refine ⟨k, hk, hr.1, fun j o' hj ho' => ?_⟩
      have := hr.2 j (Array.getElem?_eq_some_iff.1 ho').1
      rw [ho'] at this
      simpa [hj] using this
theorem wp_region_invG {id : Nat} {a0 : Act} {w0 : World} (m : Nat) (hm : P.follows .mixedOrders = true) (hf : regionFormG ops m a0.tmps.size = true)
    (S : Nat → Prop) (Φ : Bool → Nat → Value → World → Prop) (hstab : ∀ lm j v w w', Φ lm j v w → Upd (fun _ => False) w w' → Φ lm j v w')
    (hstep : ∀ j o k, ops[j]? = some o → j ≠ m → o.dst = some k → ∀ a w lm, FrS ops S lm a0 w0.drew a w → (lm = true → ∀ om, ops[m]? = some om → ∀ e ∈ om.after, Region.binds .any e = true → e.on ≠ j ∧ ∀ o2, ops[e.on]? = some o2 → ∀ e2 ∈ o2.after, Region.binds .any e2 = true → e2.on ≠ j) → (∀ e ∈ o.after, Region.binds .any e = true → ∀ o' k', ops[e.on]? = some o' → o'.dst = some k' → Φ lm e.on (a.tmps.getD k' undef) w) → (∀ e ∈ o.after, Region.binds .any e = true → e.on = m → lm = true) →
      Oper.wp P o a w (fun a' w' => ∃ v, a' = a.put o.dst v ∧ Upd (fun _ => False) w w' ∧ Φ lm j v w') Q)
    (hmid : ∀ o, ops[m]? = some o → ∀ a w, FrS ops S false a0 w0.drew a w → (∀ e ∈ o.after, Region.binds .any e = true → ∀ o' k', ops[e.on]? = some o' → o'.dst = some k' → Φ false e.on (a.tmps.getD k' undef) w) → Oper.wp P o a w (fun a' w' => a' = a ∧ Upd S w0.drew w' ∧ ∀ j o' k, ops[j]? = some o' → o'.dst = some k → Φ false j (a.tmps.getD k undef) w → Φ true j (a.tmps.getD k undef) w') Q)
    (hend : ∀ a w, FrS ops S true a0 w0.drew a w → (∀ j o' k, ops[j]? = some o' → o'.dst = some k → Φ true j (a.tmps.getD k undef) w) → Q .normal a w) :
    (Code.region id ops true).wp P Q a0 w0 := by
  have hms : m < ops.size := by
    unfold regionFormG at hf
    simp only [Bool.and_eq_true, decide_eq_true_eq] at hf
    exact hf.1
  refine wp_region_any hm ?_
  refine wpAny_inv (I := fun listed a w => listed.size = ops.size ∧ (∀ i o, ops[i]? = some o → listed.getD i false = true → ∀ e ∈ o.after, Region.binds .any e = true → listed.getD e.on false = true) ∧ FrS ops S (listed.getD m false) a0 w0.drew a w ∧ ∀ j o k, ops[j]? = some o → o.dst = some k → listed.getD j false = true → Φ (listed.getD m false) j (a.tmps.getD k undef) w) ?_ ?_ _ _ _ _ ?_ ?_
  · rintro listed a w i ⟨hsz, hcl, hfr, hph⟩ hi
    obtain ⟨hlt, hun, hdep⟩ := ready_spec hi
    have ho : ops[i]? = some ops[i] := Array.getElem?_eq_getElem hlt
    have hunf : listed.getD i false = false := by
      have : i < listed.size := by omega
      simp [Array.getD, this] at hun ⊢
      exact hun
    obtain ⟨hg, htop, hmn, hnl⟩ := formG_at hf ho
    have hsz' : (listed.setIfInBounds i true).size = ops.size := by simp [hsz]
    have hget : ∀ j, (listed.setIfInBounds i true).getD j false = if j = i then true else listed.getD j false := by
      intro j
      by_cases hj : j = i
      · subst hj
        have : j < listed.size := by omega
        simp [Array.getD, this]
      · rw [if_neg hj]
        simp only [Array.getD, Array.size_setIfInBounds]
        split
        · rename_i h2
          exact Array.getElem_setIfInBounds_ne h2 (Ne.symm hj)
        · rfl
    have hcl' : ∀ j o, ops[j]? = some o → (listed.setIfInBounds i true).getD j false = true → ∀ e ∈ o.after, Region.binds .any e = true → (listed.setIfInBounds i true).getD e.on false = true := by
      intro j o hj hlj e he hb
      rw [hget] at hlj ⊢
      split
      · rfl
      · split at hlj
        · rename_i hji
          subst hji
          exact hdep _ hj e he hb
        · exact hcl _ _ hj hlj e he hb
    unfold wpOp
    rw [ho]
    have hw : Region.wanted ops[i] (yielded ops a.tmps) = true := by simp [Region.wanted, hg]
    simp only [hw, if_true]
    by_cases him : i = m
    · have hlm : listed.getD m false = false := by rw [← him]; exact hunf
      rw [hlm] at hfr hph
      refine .inl (Oper.wp_mono (fun a' w' h => ⟨hsz', hcl', ?_⟩) (hmid _ (him ▸ ho) a w hfr (fun e he hb o' k' ho' hk' => hph e.on o' k' ho' hk' (hdep _ ho e he hb))))
      obtain ⟨rfl, hu, ht⟩ := h
      have hg2 : (listed.setIfInBounds i true).getD m false = true := by rw [hget, if_pos him.symm]
      rw [hg2]
      refine ⟨⟨hfr.size, hfr.defers, hu, (fun h => by cases h), hfr.keep⟩, fun j o k hj hk hlj => ?_⟩
      have hji : j ≠ i := fun hc => by
        subst hc
        rw [ho] at hj
        injection hj with hj
        subst hj
        rw [hmn him] at hk
        cases hk
      rw [hget, if_neg hji] at hlj
      exact ht j o k hj hk (hph j o k hj hk hlj)
    · obtain ⟨k, hk, hkn, hone⟩ := hnl him
      refine .inl (Oper.wp_mono (fun a' w' h => ⟨hsz', hcl', ?_⟩) (hstep i _ k ho him hk a w (listed.getD m false) hfr (fun hlm om hom e he hb => ⟨(fun hc => by
        have := hcl _ _ hom hlm e he hb
        rw [hc, hunf] at this
        cases this), (fun o2 ho2 e2 he2 hb2 hc => by
        have := hcl _ _ ho2 (hcl _ _ hom hlm e he hb) e2 he2 hb2
        rw [hc, hunf] at this
        cases this)⟩) (fun e he hb o' k' ho' hk' => hph e.on o' k' ho' hk' (hdep _ ho e he hb)) (fun e he hb hem => by
        rw [← hem]
        exact hdep _ ho e he hb)))
      obtain ⟨v, rfl, hu, hv⟩ := h
      have hka : k < a.tmps.size := by rw [hfr.size]; exact hkn
      have hg2 : (listed.setIfInBounds i true).getD m false = listed.getD m false := by rw [hget, if_neg (Ne.symm him)]
      rw [hg2, hk]
      refine ⟨⟨(by have := hfr.size; simp [Act.put, this]), hfr.defers, hfr.upd.trans hu (fun _ h => h.elim), (fun h => (hfr.upd0 h).trans hu (fun _ h => h.elim)), fun k' hk' => ?_⟩, fun j o k' hj hk' hlj => ?_⟩
      · rw [put_getD hka]
        split
        · rename_i he
          exfalso
          have : (ops.any fun o => o.dst == some k') = true := Array.any_eq_true'.2 ⟨ops[i], Array.getElem_mem hlt, by rw [hk, he]; simp⟩
          rw [hk'] at this
          cases this
        · exact hfr.keep k' hk'
      · rw [put_getD hka]
        by_cases hji : j = i
        · subst hji
          rw [ho] at hj
          injection hj with hj
          subst hj
          rw [hk] at hk'
          injection hk' with hk'
          rw [if_pos hk'.symm]
          exact hv
        · rw [hget, if_neg hji] at hlj
          have : k' ≠ k := fun hc => hone j o hji hj (by rw [hk', hc])
          rw [if_neg this]
          exact hstab _ _ _ _ _ (hph j o k' hj hk' hlj) hu
  · rintro listed a w ⟨hsz, _, hfr, hph⟩ hr
    have hall := all_done (fun i o ho => (formG_at hf ho).2.1) hr hsz
    have hl := hall m hms
    rw [hl] at hfr hph
    exact hend a w hfr (fun j o k hj hk => hph j o k hj hk (hall j (Array.getElem?_eq_some_iff.1 hj).1))
  · unfold undone
    have := List.length_filter_le (fun i => !(Array.replicate ops.size false).getD i true) (List.range ops.size)
    simpa using this
  · have hrep : ∀ j, (Array.replicate ops.size false).getD j false = false := fun j => by
      simp only [Array.getD]
      split
      · simp
      · rfl
    refine ⟨by simp, (fun i o _ h => by rw [hrep] at h; cases h), ?_, fun j o k _ _ h => ?_⟩
    · rw [hrep]
      exact ⟨rfl, rfl, Upd.refl _ _, (fun _ => Upd.refl _ _), fun _ _ => rfl⟩
    · rw [hrep] at h
      cases h
end
end Go.Proofs.Ytnpecnljibeddaa
