/- A region that draws its order and in which one operation writes what was there before, by an invariant. -/
import Derived.Test.YtnpecnljibeddaaInv
namespace Go.Proofs.Ytnpecnljibeddaa
open Go.RowKit
set_option linter.unusedVariables false
set_option linter.unusedSimpArgs false

/-- The frame while a region runs of which operation m alone writes (into S) what was there: lm: has it run? -/
structure FrS (ops : Array Oper) (S : Nat → Prop) (lm : Bool) (a0 : Act) (w0 : World) (a : Act) (w : World) : Prop where
  size : a.tmps.size = a0.tmps.size
  defers : a.defers = a0.defers
  upd : Upd S w0 w
  upd0 : lm = false → Upd (fun _ => False) w0 w
  keep : ∀ k, (ops.any fun o => o.dst == some k) = false → a.tmps.getD k undef = a0.tmps.getD k undef
section
variable {P : Program} {ops : Array Oper} {Q : Exit → Act → World → Prop}
theorem wp_region_invS {id : Nat} {a0 : Act} {w0 : World} (hm : P.follows .mixedOrders = true) (hf : regionForm ops a0.tmps.size = true)
    (S : Nat → Prop) (m : Nat) (Φ : Nat → Value → World → Prop) (hstab : ∀ j v w w', Φ j v w → Upd S w0.drew w → Upd S w w' → (j = m → Upd (fun _ => False) w w') → Φ j v w')
    (hstep : ∀ j o k, ops[j]? = some o → j ≠ ops.size - 1 → o.dst = some k → ∀ a w lm, FrS ops S lm a0 w0.drew a w → (j = m → lm = false) → (∀ e ∈ o.after, Region.binds .any e = true → ∀ o' k', ops[e.on]? = some o' → o'.dst = some k' → Φ e.on (a.tmps.getD k' undef) w) →
      Oper.wp P o a w (fun a' w' => ∃ v, a' = a.put o.dst v ∧ Upd S w w' ∧ (j ≠ m → Upd (fun _ => False) w w') ∧ Φ j v w') Q)
    (hlast : ∀ o, ops[ops.size - 1]? = some o → ∀ a w lm, FrS ops S lm a0 w0.drew a w → (∀ j o' k, ops[j]? = some o' → j ≠ ops.size - 1 → o'.dst = some k → Φ j (a.tmps.getD k undef) w) → Oper.wp P o a w (fun a' w' => Q .normal a' w') Q) :
    (Code.region id ops true).wp P Q a0 w0 := by
  refine wp_region_any hm ?_
  refine wpAny_inv (I := fun listed a w => listed.size = ops.size ∧ (∀ i o, ops[i]? = some o → listed.getD i false = true → ∀ e ∈ o.after, Region.binds .any e = true → listed.getD e.on false = true) ∧ ((listed.getD (ops.size - 1) false = false ∧ FrS ops S (listed.getD m false) a0 w0.drew a w ∧ ∀ j o k, ops[j]? = some o → j ≠ ops.size - 1 → o.dst = some k → listed.getD j false = true → Φ j (a.tmps.getD k undef) w) ∨ (listed.getD (ops.size - 1) false = true ∧ (∀ j, j < ops.size → listed.getD j false = true) ∧ Q .normal a w))) ?_ ?_ _ _ _ _ ?_ ?_
  · rintro listed a w i ⟨hsz, hcl, hI⟩ hi
    obtain ⟨hlt, hun, hdep⟩ := ready_spec hi
    have ho : ops[i]? = some ops[i] := Array.getElem?_eq_getElem hlt
    have hunf : listed.getD i false = false := by
      have : i < listed.size := by omega
      simp [Array.getD, this] at hun ⊢
      exact hun
    rcases hI with ⟨hl, hfr, hph⟩ | ⟨hl, hall, _⟩
    · obtain ⟨hg, htop, hlst, hnl⟩ := form_at hf ho
      have hsz' : (listed.setIfInBounds i true).size = ops.size := by simp [hsz]
      have hget : ∀ j, (listed.setIfInBounds i true).getD j false = if j = i then true else listed.getD j false := by
        intro j
        by_cases hj : j = i
        · subst hj
          have : j < listed.size := by omega
          simp [Array.getD, this]
        · rw [if_neg hj]
          simp only [Array.getD, Array.size_setIfInBounds]
          split
          · rename_i h2
            exact Array.getElem_setIfInBounds_ne h2 (Ne.symm hj)
          · rfl
      have hcl' : ∀ j o, ops[j]? = some o → (listed.setIfInBounds i true).getD j false = true → ∀ e ∈ o.after, Region.binds .any e = true → (listed.setIfInBounds i true).getD e.on false = true := by
        intro j o hj hlj e he hb
        rw [hget] at hlj ⊢
        split
        · rfl
        · split at hlj
          · rename_i hji
            subst hji
            exact hdep _ hj e he hb
          · exact hcl _ _ hj hlj e he hb
      unfold wpOp
      rw [ho]
      have hw : Region.wanted ops[i] (yielded ops a.tmps) = true := by simp [Region.wanted, hg]
      simp only [hw, if_true]
      by_cases hil : i = ops.size - 1
      · obtain ⟨hdn, hcov⟩ := hlst hil
        have hall : ∀ j, j < ops.size - 1 → listed.getD j false = true := fun j hj => by
          rcases hcov j hj with ⟨e, he, hb, rfl⟩ | ⟨e, he, hb, o', ho', e', he', hb', rfl⟩
          · exact hdep _ ho e he hb
          · exact hcl _ _ ho' (hdep _ ho e he hb) e' he' hb'
        refine .inl (Oper.wp_mono (fun a' w' h => ⟨hsz', hcl', .inr ⟨?_, ?_, h⟩⟩) (hlast _ (hil ▸ ho) a w _ hfr (fun j o' k hj hne hk => hph j o' k hj hne hk (hall j (by have := (Array.getElem?_eq_some_iff.1 hj).1; omega)))))
        · rw [hget, if_pos hil.symm]
        · intro j hj
          rw [hget]
          split
          · rfl
          · exact hall j (by omega)
      · obtain ⟨k, hk, hkn, hone⟩ := hnl hil
        refine .inl (Oper.wp_mono (fun a' w' h => ⟨hsz', hcl', .inl ?_⟩) (hstep i _ k ho hil hk a w _ hfr (fun him => him ▸ hunf) (fun e he hb o' k' ho' hk' => hph e.on o' k' ho' (fun hc => by
          have := hdep _ ho e he hb
          rw [hc, hl] at this
          cases this) hk' (hdep _ ho e he hb))))
        obtain ⟨v, rfl, hu, hu0, hv⟩ := h
        have hka : k < a.tmps.size := by rw [hfr.size]; exact hkn
        rw [hk]
        refine ⟨by rw [hget, if_neg (Ne.symm hil)]; exact hl, ⟨(by have := hfr.size; simp [Act.put, this]), hfr.defers, hfr.upd.trans hu (fun _ h => .inl h), fun hlm => ?_, fun k' hk' => ?_⟩, fun j o k' hj hne hk' hlj => ?_⟩
        · rw [hget] at hlm
          split at hlm
          · cases hlm
          · rename_i hne'
            exact (hfr.upd0 hlm).trans (hu0 (fun h => hne' h.symm)) (fun _ h => h.elim)
        · rw [put_getD hka]
          split
          · rename_i he
            exfalso
            have : (ops.any fun o => o.dst == some k') = true := Array.any_eq_true'.2 ⟨ops[i], Array.getElem_mem hlt, by rw [hk, he]; simp⟩
            rw [hk'] at this
            cases this
          · exact hfr.keep k' hk'
        · rw [put_getD hka]
          by_cases hji : j = i
          · subst hji
            rw [ho] at hj
            injection hj with hj
            subst hj
            rw [hk] at hk'
            injection hk' with hk'
            rw [if_pos hk'.symm]
            exact hv
          · rw [hget, if_neg hji] at hlj
            have : k' ≠ k := fun hc => hone j o hji hj (by rw [hk', hc])
            rw [if_neg this]
            exact hstab _ _ _ _ (hph j o k' hj hne hk' hlj) hfr.upd hu (fun hjm => hu0 (fun him => hji (hjm.trans him.symm)))
    · have := hall i hlt
      rw [hunf] at this
      cases this
  · rintro listed a w ⟨hsz, _, hI⟩ hr
    have hall := all_done (fun i o ho => (form_at hf ho).2.1) hr hsz
    rcases hI with ⟨hl, _⟩ | ⟨_, _, hq⟩
    · unfold regionForm at hf
      simp only [Bool.and_eq_true, decide_eq_true_eq] at hf
      have := hall (ops.size - 1) (by omega)
      rw [hl] at this
      cases this
    · exact hq
  · unfold undone
    have := List.length_filter_le (fun i => !(Array.replicate ops.size false).getD i true) (List.range ops.size)
    simpa using this
  · have hrep : ∀ j, (Array.replicate ops.size false).getD j false = false := fun j => by
      simp only [Array.getD]
      split
      · simp
      · rfl
    refine ⟨by simp, (fun i o _ h => by rw [hrep] at h; cases h), .inl ⟨hrep _, ⟨rfl, rfl, Upd.refl _ _, fun _ => Upd.refl _ _, fun _ _ => rfl⟩, fun j o k _ _ _ h => ?_⟩⟩
    rw [hrep] at h
    cases h
theorem FrS.act {S : Nat → Prop} {lm : Bool} {a0 a : Act} {w0 w : World} (h : FrS ops S lm a0 w0 a w) (mask : List Bool) (hmask : ((List.range a0.tmps.size).map fun k => ops.any fun o => o.dst == some k) = mask) :
    a = ⟨(pickv mask a0.tmps.toList (fun k => a.tmps.getD k undef) 0).toArray, a0.defers⟩ := by
  subst hmask
  obtain ⟨ts, ds⟩ := a
  obtain ⟨h1, h2, h3, _, h4⟩ := h
  simp only at h1 h2 h4
  subst h2
  congr 1
  have hlen := pickv_len (bs := (List.range a0.tmps.size).map fun k => ops.any fun o => o.dst == some k) (vs := a0.tmps.toList) (f := fun k => ts.getD k undef) (k := 0) (by simp)
  refine Array.ext (h1.trans hlen.symm) fun i hi hi' => ?_
  have hi0 : i < a0.tmps.size := by omega
  have hp := pickv_get (bs := (List.range a0.tmps.size).map fun k => ops.any fun o => o.dst == some k) (vs := a0.tmps.toList) (f := fun k => ts.getD k undef) (k := 0) (i := i) (b := ops.any fun o => o.dst == some i) (v := a0.tmps[i]) (by simp [hi0]) (by simp [hi0])
  have hg : ts.getD i undef = ts[i] := by simp [Array.getD, hi]
  have hg0 : a0.tmps.getD i undef = a0.tmps[i] := by simp [Array.getD, hi0]
  have : some ts[i] = (pickv ((List.range a0.tmps.size).map fun k => ops.any fun o => o.dst == some k) a0.tmps.toList (fun k => ts.getD k undef) 0)[i]? := by
    rw [hp]
    cases hb : ops.any fun o => o.dst == some i with
    | true => simp [hg]
    | false => rw [if_neg (by simp), ← hg, h4 i hb, hg0]
  rw [List.getElem?_eq_getElem (by simpa using hi')] at this
  simpa using this
end
end Go.Proofs.Ytnpecnljibeddaa
