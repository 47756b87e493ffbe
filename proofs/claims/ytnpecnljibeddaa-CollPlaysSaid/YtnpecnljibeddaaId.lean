/- A region that draws its order, whatever its operations do: by an invariant over the set of those that are done. -/
import Derived.Test.YtnpecnljibeddaaIvs
namespace Go.Proofs.Ytnpecnljibeddaa
open Go.RowKit
set_option linter.unusedVariables false
set_option linter.unusedSimpArgs false

/-- The region's form: nobody is guarded; what yields yields into a slot of its own; each waits for earlier ones alone. -/
def regionFormD (ops : Array Oper) (n : Nat) : Bool :=
  (List.range ops.size).all (fun i => match ops[i]? with
    | none => false
    | some o => o.guard.isNone && o.after.all (fun e => !Region.binds .any e || decide (e.on < i)) &&
      (match o.dst with
        | none => true
        | some k => decide (k < n) && (List.range ops.size).all fun j => j == i || match ops[j]? with
          | none => true
          | some o' => o'.dst != some k))
/-- The frame while a region runs: what no operation writes stays; V: what the plain ones yield. -/
structure FrD (ops : Array Oper) (V : Nat → Option Value) (D : Nat → Bool) (a0 : Act) (a : Act) : Prop where
  size : a.tmps.size = a0.tmps.size
  defers : a.defers = a0.defers
  keep : ∀ k, (ops.any fun o => o.dst == some k) = false → a.tmps.getD k undef = a0.tmps.getD k undef
  val : ∀ j o k v, D j = true → ops[j]? = some o → o.dst = some k → V j = some v → a.tmps.getD k undef = v
/-- The set with one more. -/
def more (D : Nat → Bool) (i : Nat) : Nat → Bool := fun j => if j = i then true else D j
section
variable {P : Program} {ops : Array Oper} {Q : Exit → Act → World → Prop}
theorem formD_at {n : Nat} (h : regionFormD ops n = true) {i : Nat} {o : Oper} (ho : ops[i]? = some o) :
    o.guard = none ∧ (∀ e ∈ o.after, Region.binds .any e = true → e.on < i) ∧ (∀ k, o.dst = some k → k < n ∧ ∀ j o', j ≠ i → ops[j]? = some o' → o'.dst ≠ some k) := by
  unfold regionFormD at h
  simp only [List.all_eq_true, List.mem_range] at h
  have hi := (Array.getElem?_eq_some_iff.1 ho).1
  have h1 := h i hi
  rw [ho] at h1
  simp only [Bool.and_eq_true] at h1
  obtain ⟨⟨hg, ha⟩, hr⟩ := h1
  refine ⟨by simpa using hg, fun e he hb => ?_, fun k hk => ?_⟩
  · have := Array.all_eq_true_iff_forall_mem.1 ha e he
    simpa [hb] using this
  · rw [hk] at hr
    simp only [Bool.and_eq_true, decide_eq_true_eq, List.all_eq_true, List.mem_range] at hr
    refine ⟨hr.1, fun j o' hj ho' => ?_⟩
    have := hr.2 j (Array.getElem?_eq_some_iff.1 ho').1
    rw [ho'] at this
    simpa [hj] using this
theorem wp_region_invD {id : Nat} {a0 : Act} {w0 : World} (hm : P.follows .mixedOrders = true) (hf : regionFormD ops a0.tmps.size = true)
    (V : Nat → Option Value) (Ψ : (Nat → Bool) → (Nat → Value) → World → Prop)
    (h0 : Ψ (fun _ => false) (fun k => a0.tmps.getD k undef) w0.drew)
    (hstab : ∀ D D' r r' w, (∀ j, V j = none → D' j = D j) → (∀ j o k, V j = none → ops[j]? = some o → o.dst = some k → r' k = r k) → Ψ D r w → Ψ D' r' w)
    (hval : ∀ j o v, ops[j]? = some o → V j = some v → ∀ D a w, FrD ops V D a0 a → Ψ D (fun k => a.tmps.getD k undef) w → (∀ e ∈ o.after, Region.binds .any e = true → D e.on = true) → Oper.wp P o a w (fun a' w' => a' = a.put o.dst v ∧ w' = w) Q)
    (hspec : ∀ j o, ops[j]? = some o → V j = none → ∀ D a w, FrD ops V D a0 a → D j = false → (∀ i oi, ops[i]? = some oi → D i = true → ∀ e ∈ oi.after, Region.binds .any e = true → D e.on = true) → Ψ D (fun k => a.tmps.getD k undef) w → (∀ e ∈ o.after, Region.binds .any e = true → D e.on = true) →
      Oper.wp P o a w (fun a' w' => ∃ v, a' = a.put o.dst v ∧ Ψ (more D j) (fun k => if o.dst = some k then v else a.tmps.getD k undef) w') Q)
    (hend : ∀ D a w, (∀ j, j < ops.size → D j = true) → FrD ops V D a0 a → Ψ D (fun k => a.tmps.getD k undef) w → Q .normal a w) :
    (Code.region id ops true).wp P Q a0 w0 := by
  refine wp_region_any hm ?_
  refine wpAny_inv (I := fun listed a w => listed.size = ops.size ∧ (∀ i o, ops[i]? = some o → listed.getD i false = true → ∀ e ∈ o.after, Region.binds .any e = true → listed.getD e.on false = true) ∧ FrD ops V (fun j => listed.getD j false) a0 a ∧ Ψ (fun j => listed.getD j false) (fun k => a.tmps.getD k undef) w) ?_ ?_ _ _ _ _ ?_ ?_
  · rintro listed a w i ⟨hsz, hcl, hfr, hph⟩ hi
    obtain ⟨hlt, hun, hdep⟩ := ready_spec hi
    have ho : ops[i]? = some ops[i] := Array.getElem?_eq_getElem hlt
    have hunf : listed.getD i false = false := by
      have : i < listed.size := by omega
      simp [Array.getD, this] at hun ⊢
      exact hun
    obtain ⟨hg, htop, hnl⟩ := formD_at hf ho
    have hsz' : (listed.setIfInBounds i true).size = ops.size := by simp [hsz]
    have hget : ∀ j, (listed.setIfInBounds i true).getD j false = if j = i then true else listed.getD j false := by
      intro j
      by_cases hj : j = i
      · subst hj
        have : j < listed.size := by omega
        simp [Array.getD, this]
      · rw [if_neg hj]
        simp only [Array.getD, Array.size_setIfInBounds]
        split
        · rename_i h2
          exact Array.getElem_setIfInBounds_ne h2 (Ne.symm hj)
        · rfl
    have hcl' : ∀ j o, ops[j]? = some o → (listed.setIfInBounds i true).getD j false = true → ∀ e ∈ o.after, Region.binds .any e = true → (listed.setIfInBounds i true).getD e.on false = true := by
      intro j o hj hlj e he hb
      rw [hget] at hlj ⊢
      split
      · rfl
      · split at hlj
        · rename_i hji
          subst hji
          exact hdep _ hj e he hb
        · exact hcl _ _ hj hlj e he hb
    have hmore : (fun j => (listed.setIfInBounds i true).getD j false) = more (fun j => listed.getD j false) i := funext hget
    have hputv : ∀ v k, (a.put ops[i].dst v).tmps.getD k undef = if ops[i].dst = some k then v else a.tmps.getD k undef := by
      intro v k
      cases hd : ops[i].dst with
      | none => simp [Act.put]
      | some k0 =>
        have hka : k0 < a.tmps.size := by rw [hfr.size]; exact (hnl k0 hd).1
        rw [put_getD hka]
        by_cases h : k = k0
        · subst h; simp
        · rw [if_neg h, if_neg (by simp; exact fun h' => h h'.symm)]
    have hsize : ∀ v, (a.put ops[i].dst v).tmps.size = a.tmps.size := by
      intro v
      cases ops[i].dst <;> simp [Act.put]
    have hdef : ∀ v, (a.put ops[i].dst v).defers = a.defers := by
      intro v
      cases ops[i].dst <;> simp [Act.put]
    have hfr' : ∀ v, (∀ v', V i = some v' → v = v') → FrD ops V (fun j => (listed.setIfInBounds i true).getD j false) a0 (a.put ops[i].dst v) := by
      intro v hvv
      refine ⟨(hsize v).trans hfr.size, (hdef v).trans hfr.defers, fun k hk => ?_, fun j o k v' hj hoj hk hv' => ?_⟩
      · rw [hputv]
        split
        · rename_i he
          exfalso
          have : (ops.any fun o => o.dst == some k) = true := Array.any_eq_true'.2 ⟨ops[i], Array.getElem_mem hlt, by rw [he]; simp⟩
          rw [hk] at this
          cases this
        · exact hfr.keep k hk
      · rw [hputv]
        by_cases hji : j = i
        · subst hji
          rw [ho] at hoj
          injection hoj with hoj
          subst hoj
          rw [if_pos hk]
          exact hvv _ hv'
        · have hj' : listed.getD j false = true := by
            have : (listed.setIfInBounds i true).getD j false = true := hj
            rwa [hget, if_neg hji] at this
          have : ops[i].dst ≠ some k := fun hc => (hnl k hc).2 j o hji hoj hk
          rw [if_neg this]
          exact hfr.val j o k v' hj' hoj hk hv'
    unfold wpOp
    rw [ho]
    have hw : Region.wanted ops[i] (yielded ops a.tmps) = true := by simp [Region.wanted, hg]
    simp only [hw, if_true]
    cases hV : V i with
    | some v =>
      refine .inl (Oper.wp_mono (fun a' w' h => ⟨hsz', hcl', ?_⟩) (hval i _ v ho hV _ a w hfr hph (fun e he hb => hdep _ ho e he hb)))
      obtain ⟨rfl, rfl⟩ := h
      refine ⟨hfr' v (fun v' h => by rw [hV] at h; injection h), hstab _ _ _ _ _ (fun j hj => ?_) (fun j o k hj hoj hk => ?_) hph⟩
      · show (listed.setIfInBounds i true).getD j false = listed.getD j false
        rw [hget, if_neg (fun hc => by rw [hc, hV] at hj; cases hj)]
      · show (a.put ops[i].dst v).tmps.getD k undef = a.tmps.getD k undef
        rw [hputv, if_neg]
        intro hc
        exact (hnl k hc).2 j o (fun hc => by rw [hc, hV] at hj; cases hj) hoj hk
    | none =>
      refine .inl (Oper.wp_mono (fun a' w' h => ⟨hsz', hcl', ?_⟩) (hspec i _ ho hV _ a w hfr hunf hcl hph (fun e he hb => hdep _ ho e he hb)))
      obtain ⟨v, rfl, hp⟩ := h
      refine ⟨hfr' v (fun v' h => by rw [hV] at h; cases h), ?_⟩
      rw [hmore]
      have : (fun k => (a.put ops[i].dst v).tmps.getD k undef) = fun k => if ops[i].dst = some k then v else a.tmps.getD k undef := funext (hputv v)
      rw [this]
      exact hp
  · rintro listed a w ⟨hsz, _, hfr, hph⟩ hr
    have hall := all_done (fun i o ho => (formD_at hf ho).2.1) hr hsz
    exact hend _ a w hall hfr hph
  · unfold undone
    have := List.length_filter_le (fun i => !(Array.replicate ops.size false).getD i true) (List.range ops.size)
    simpa using this
  · have hrep : ∀ j, (Array.replicate ops.size false).getD j false = false := fun j => by
      simp only [Array.getD]
      split
      · simp
      · rfl
    have hre : (fun j => (Array.replicate ops.size false).getD j false) = fun _ => false := funext hrep
    refine ⟨by simp, (fun i o _ h => by rw [hrep] at h; cases h), ⟨rfl, rfl, fun _ _ => rfl, fun j o k v h => ?_⟩, ?_⟩
    · have : (Array.replicate ops.size false).getD j false = true := h
      rw [hrep] at this
      cases this
    · rw [hre]
      exact h0
end
/-- The slots behind the region. -/
theorem FrD.act {ops : Array Oper} {V : Nat → Option Value} {D : Nat → Bool} {a0 a : Act} (h : FrD ops V D a0 a) (mask : List Bool) (hmask : ((List.range a0.tmps.size).map fun k => ops.any fun o => o.dst == some k) = mask) :
    a = { a0 with tmps := (pickv mask a0.tmps.toList (fun k => a.tmps.getD k undef) 0).toArray } :=
  Fr.act (ops := ops) (w0 := default) (w := default) ⟨h.size, h.defers, Upd.refl _ _, h.keep⟩ mask hmask
end Go.Proofs.Ytnpecnljibeddaa
