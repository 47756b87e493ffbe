/- A region that draws its order, whose last operation but one stores into a block that the region makes. -/
import Derived.Test.YtdfnhbhcgkdplaaInv
namespace Go.Proofs.Ytdfnhbhcgkdplaa
open Go.RowKit
set_option linter.unusedVariables false
set_option linter.unusedSimpArgs false

/-- The region's form: nobody is guarded, all but the last and the one before it (a store) yield into slots of their own, each waits for earlier ones alone, the last for all. -/
def regionForm2 (ops : Array Oper) (n : Nat) : Bool :=
  let l := ops.size - 1
  decide (1 < ops.size) &&
  (List.range ops.size).all (fun i => match ops[i]? with
    | none => false
    | some o => o.guard.isNone && o.after.all (fun e => !Region.binds .any e || decide (e.on < i)) &&
      (if i = l then (List.range l).all (fun j => (o.after.any fun e => Region.binds .any e && e.on == j) || (o.after.any fun e => Region.binds .any e && match ops[e.on]? with
          | none => false
          | some o' => o'.after.any fun e' => Region.binds .any e' && e'.on == j))
       else if i = ops.size - 2 then o.dst.isNone else match o.dst with
        | none => false
        | some k => decide (k < n) && (List.range ops.size).all fun j => j == i || match ops[j]? with
          | none => true
          | some o' => o'.dst != some k))
section
variable {P : Program} {ops : Array Oper} {Q : Exit → Act → World → Prop}
theorem form2_at {n : Nat} (h : regionForm2 ops n = true) {i : Nat} {o : Oper} (ho : ops[i]? = some o) :
    o.guard = none ∧ (∀ e ∈ o.after, Region.binds .any e = true → e.on < i) ∧ (i = ops.size - 1 → ∀ j, j < ops.size - 1 → (∃ e ∈ o.after, Region.binds .any e = true ∧ e.on = j) ∨ ∃ e ∈ o.after, Region.binds .any e = true ∧ ∃ o', ops[e.on]? = some o' ∧ ∃ e' ∈ o'.after, Region.binds .any e' = true ∧ e'.on = j) ∧ (i ≠ ops.size - 1 → i = ops.size - 2 → o.dst = none) ∧ (i ≠ ops.size - 1 → i ≠ ops.size - 2 → ∃ k, o.dst = some k ∧ k < n ∧ ∀ j o', j ≠ i → ops[j]? = some o' → o'.dst ≠ some k) := by
  unfold regionForm2 at h
  simp only [Bool.and_eq_true, decide_eq_true_eq, List.all_eq_true, List.mem_range] at h
  have hi := (Array.getElem?_eq_some_iff.1 ho).1
  have h1 := h.2 i hi
  rw [ho] at h1
  simp only [Bool.and_eq_true] at h1
  obtain ⟨⟨hg, ha⟩, hr⟩ := h1
  refine ⟨by simpa using hg, fun e he hb => ?_, fun hl => ?_, fun hl hm => ?_, fun hl hm => ?_⟩
  · have := Array.all_eq_true_iff_forall_mem.1 ha e he
    simpa [hb] using this
  · rw [if_pos hl] at hr
    simp only [List.all_eq_true, List.mem_range] at hr
    intro j hj
    rcases (Bool.or_eq_true _ _).mp (hr j hj) with h3 | h3
    · obtain ⟨e, he, hb⟩ := Array.any_eq_true'.1 h3
      simp only [Bool.and_eq_true, beq_iff_eq] at hb
      exact .inl ⟨e, he, hb.1, hb.2⟩
    · obtain ⟨e, he, hb⟩ := Array.any_eq_true'.1 h3
      simp only [Bool.and_eq_true] at hb
      obtain ⟨hb1, hb2⟩ := hb
      split at hb2
      · cases hb2
      · rename_i o' ho'
        obtain ⟨e', he', hb'⟩ := Array.any_eq_true'.1 hb2
        simp only [Bool.and_eq_true, beq_iff_eq] at hb'
        exact .inr ⟨e, he, hb1, o', ho', e', he', hb'.1, hb'.2⟩
  · rw [if_neg hl, if_pos hm] at hr
    simpa using hr
  · rw [if_neg hl, if_neg hm] at hr
    split at hr
    · cases hr
    · rename_i k hk
      simp only [Bool.and_eq_true, decide_eq_true_eq, List.all_eq_true, List.mem_range] at hr
      refine ⟨k, hk, hr.1, fun j o' hj ho' => ?_⟩
      have := hr.2 j (Array.getElem?_eq_some_iff.1 ho').1
      rw [ho'] at this
      simpa [hj] using this
theorem form2_size {n : Nat} (h : regionForm2 ops n = true) : 1 < ops.size := by
  unfold regionForm2 at h
  simp only [Bool.and_eq_true, decide_eq_true_eq] at h
  exact h.1
theorem wp_region_inv2 {id : Nat} {a0 : Act} {w0 : World} (hm : P.follows .mixedOrders = true) (hf : regionForm2 ops a0.tmps.size = true)
    (Φ : Bool → Nat → Value → World → Prop) (hstab : ∀ lm j v w w', Φ lm j v w → Upd (fun _ => False) w w' → Φ lm j v w')
    (hstep : ∀ j o k, ops[j]? = some o → j ≠ ops.size - 1 → j ≠ ops.size - 2 → o.dst = some k → ∀ a w lm, Fr ops a0 w0.drew a w → (lm = true → ∀ om, ops[ops.size - 2]? = some om → ∀ e ∈ om.after, Region.binds .any e = true → e.on ≠ j) → (∀ e ∈ o.after, Region.binds .any e = true → ∀ o' k', ops[e.on]? = some o' → o'.dst = some k' → Φ lm e.on (a.tmps.getD k' undef) w) →
      Oper.wp P o a w (fun a' w' => ∃ v, a' = a.put o.dst v ∧ Upd (fun _ => False) w w' ∧ Φ lm j v w') Q)
    (hmid : ∀ o, ops[ops.size - 2]? = some o → ∀ a w, Fr ops a0 w0.drew a w → (∀ e ∈ o.after, Region.binds .any e = true → ∀ o' k', ops[e.on]? = some o' → o'.dst = some k' → Φ false e.on (a.tmps.getD k' undef) w) → Oper.wp P o a w (fun a' w' => a' = a ∧ Upd (fun _ => False) w0.drew w' ∧ ∀ j o' k, ops[j]? = some o' → j ≠ ops.size - 1 → o'.dst = some k → Φ false j (a.tmps.getD k undef) w → Φ true j (a.tmps.getD k undef) w') Q)
    (hlast : ∀ o, ops[ops.size - 1]? = some o → ∀ a w, Fr ops a0 w0.drew a w → (∀ j o' k, ops[j]? = some o' → j ≠ ops.size - 1 → o'.dst = some k → Φ true j (a.tmps.getD k undef) w) → Oper.wp P o a w (fun a' w' => Q .normal a' w') Q) :
    (Code.region id ops true).wp P Q a0 w0 := by
  refine wp_region_any hm ?_
  refine wpAny_inv (I := fun listed a w => listed.size = ops.size ∧ (∀ i o, ops[i]? = some o → listed.getD i false = true → ∀ e ∈ o.after, Region.binds .any e = true → listed.getD e.on false = true) ∧ ((listed.getD (ops.size - 1) false = false ∧ Fr ops a0 w0.drew a w ∧ ∀ j o k, ops[j]? = some o → j ≠ ops.size - 1 → o.dst = some k → listed.getD j false = true → Φ (listed.getD (ops.size - 2) false) j (a.tmps.getD k undef) w) ∨ (listed.getD (ops.size - 1) false = true ∧ (∀ j, j < ops.size → listed.getD j false = true) ∧ Q .normal a w))) ?_ ?_ _ _ _ _ ?_ ?_
  · rintro listed a w i ⟨hsz, hcl, hI⟩ hi
    obtain ⟨hlt, hun, hdep⟩ := ready_spec hi
    have ho : ops[i]? = some ops[i] := Array.getElem?_eq_getElem hlt
    have hunf : listed.getD i false = false := by
      have : i < listed.size := by omega
      simp [Array.getD, this] at hun ⊢
      exact hun
    rcases hI with ⟨hl, hfr, hph⟩ | ⟨hl, hall, _⟩
    · have h2s := form2_size hf
      obtain ⟨hg, htop, hlst, hmn, hnl⟩ := form2_at hf ho
      have hsz' : (listed.setIfInBounds i true).size = ops.size := by simp [hsz]
      have hget : ∀ j, (listed.setIfInBounds i true).getD j false = if j = i then true else listed.getD j false := by
        intro j
        by_cases hj : j = i
        · subst hj
          have : j < listed.size := by omega
          simp [Array.getD, this]
        · rw [if_neg hj]
          simp only [Array.getD, Array.size_setIfInBounds]
          split
          · rename_i h2
            exact Array.getElem_setIfInBounds_ne h2 (Ne.symm hj)
          · rfl
      have hcl' : ∀ j o, ops[j]? = some o → (listed.setIfInBounds i true).getD j false = true → ∀ e ∈ o.after, Region.binds .any e = true → (listed.setIfInBounds i true).getD e.on false = true := by
        intro j o hj hlj e he hb
        rw [hget] at hlj ⊢
        split
        · rfl
        · split at hlj
          · rename_i hji
            subst hji
            exact hdep _ hj e he hb
          · exact hcl _ _ hj hlj e he hb
      unfold wpOp
      rw [ho]
      have hw : Region.wanted ops[i] (yielded ops a.tmps) = true := by simp [Region.wanted, hg]
      simp only [hw, if_true]
      by_cases hil : i = ops.size - 1
      · have hcov := hlst hil
        have hall : ∀ j, j < ops.size - 1 → listed.getD j false = true := fun j hj => by
          rcases hcov j hj with ⟨e, he, hb, rfl⟩ | ⟨e, he, hb, o', ho', e', he', hb', rfl⟩
          · exact hdep _ ho e he hb
          · exact hcl _ _ ho' (hdep _ ho e he hb) e' he' hb'
        refine .inl (Oper.wp_mono (fun a' w' h => ⟨hsz', hcl', .inr ⟨?_, ?_, h⟩⟩) (hlast _ (hil ▸ ho) a w hfr (fun j o' k hj hne hk => by
          have h1 := hph j o' k hj hne hk (hall j (by have := (Array.getElem?_eq_some_iff.1 hj).1; omega))
          rwa [hall (ops.size - 2) (by omega)] at h1)))
        · rw [hget, if_pos hil.symm]
        · intro j hj
          rw [hget]
          split
          · rfl
          · exact hall j (by omega)
      · by_cases him : i = ops.size - 2
        · refine .inl (Oper.wp_mono (fun a' w' h => ⟨hsz', hcl', .inl ?_⟩) (hmid _ (him ▸ ho) a w hfr (fun e he hb o' k' ho' hk' => by
            have h1 := hph e.on o' k' ho' (fun hc => by
              have := hdep _ ho e he hb
              rw [hc, hl] at this
              cases this) hk' (hdep _ ho e he hb)
            rwa [← him, hunf] at h1)))
          obtain ⟨rfl, hu, ht⟩ := h
          refine ⟨by rw [hget, if_neg (Ne.symm hil)]; exact hl, ⟨hfr.size, hfr.defers, hu, hfr.keep⟩, fun j o k hj hne hk hlj => ?_⟩
          rw [hget, if_pos him.symm]
          have hji : j ≠ i := fun hc => by
            subst hc
            rw [ho] at hj
            injection hj with hj
            subst hj
            rw [hmn hil him] at hk
            cases hk
          rw [hget, if_neg hji] at hlj
          have h1 := hph j o k hj hne hk hlj
          rw [← him, hunf] at h1
          exact ht j o k hj hne hk h1
        · obtain ⟨k, hk, hkn, hone⟩ := hnl hil him
          refine .inl (Oper.wp_mono (fun a' w' h => ⟨hsz', hcl', .inl ?_⟩) (hstep i _ k ho hil him hk a w (listed.getD (ops.size - 2) false) hfr (fun hlm om hom e he hb hc => by
            have := hcl _ _ hom hlm e he hb
            rw [hc, hunf] at this
            cases this) (fun e he hb o' k' ho' hk' => hph e.on o' k' ho' (fun hc => by
            have := hdep _ ho e he hb
            rw [hc, hl] at this
            cases this) hk' (hdep _ ho e he hb))))
          obtain ⟨v, rfl, hu, hv⟩ := h
          have hka : k < a.tmps.size := by rw [hfr.size]; exact hkn
          rw [hk]
          refine ⟨by rw [hget, if_neg (Ne.symm hil)]; exact hl, ⟨(by have := hfr.size; simp [Act.put, this]), hfr.defers, hfr.upd.trans hu (fun _ h => h.elim), fun k' hk' => ?_⟩, fun j o k' hj hne hk' hlj => ?_⟩
          · rw [put_getD hka]
            split
            · rename_i he
              exfalso
              have : (ops.any fun o => o.dst == some k') = true := Array.any_eq_true'.2 ⟨ops[i], Array.getElem_mem hlt, by rw [hk, he]; simp⟩
              rw [hk'] at this
              cases this
            · exact hfr.keep k' hk'
          · rw [hget (ops.size - 2), if_neg (Ne.symm him)]
            rw [put_getD hka]
            by_cases hji : j = i
            · subst hji
              rw [ho] at hj
              injection hj with hj
              subst hj
              rw [hk] at hk'
              injection hk' with hk'
              rw [if_pos hk'.symm]
              exact hv
            · rw [hget, if_neg hji] at hlj
              have : k' ≠ k := fun hc => hone j o hji hj (by rw [hk', hc])
              rw [if_neg this]
              exact hstab _ _ _ _ _ (hph j o k' hj hne hk' hlj) hu
    · have := hall i hlt
      rw [hunf] at this
      cases this
  · rintro listed a w ⟨hsz, _, hI⟩ hr
    have hall := all_done (fun i o ho => (form2_at hf ho).2.1) hr hsz
    rcases hI with ⟨hl, _⟩ | ⟨_, _, hq⟩
    · unfold regionForm2 at hf
      simp only [Bool.and_eq_true, decide_eq_true_eq] at hf
      have := hall (ops.size - 1) (by omega)
      rw [hl] at this
      cases this
    · exact hq
  · unfold undone
    have := List.length_filter_le (fun i => !(Array.replicate ops.size false).getD i true) (List.range ops.size)
    simpa using this
  · have hrep : ∀ j, (Array.replicate ops.size false).getD j false = false := fun j => by
      simp only [Array.getD]
      split
      · simp
      · rfl
    refine ⟨by simp, (fun i o _ h => by rw [hrep] at h; cases h), .inl ⟨hrep _, ⟨rfl, rfl, Upd.refl _ _, fun _ _ => rfl⟩, fun j o k _ _ _ h => ?_⟩⟩
    rw [hrep] at h
    cases h
end
end Go.Proofs.Ytdfnhbhcgkdplaa
