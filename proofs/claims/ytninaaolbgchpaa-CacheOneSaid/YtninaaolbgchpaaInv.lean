/- A region that draws its order, by an invariant: each operation is shown once. -/
import Derived.Test.YtninaaolbgchpaaX
import Derived.RegionTactic
import Derived.Orders
namespace Go.Proofs.Ytninaaolbgchpaa
open Go.RowKit
set_option linter.unusedVariables false

theorem filter_lt {p q : Nat → Bool} : ∀ {l : List Nat}, (∀ x, q x = true → p x = true) → ∀ i ∈ l, p i = true → q i = false → (l.filter q).length < (l.filter p).length
  | [], _, i, hi, _, _ => by cases hi
  | x :: l, h, i, hi, hp, hq => by
    have hle : (l.filter q).length ≤ (l.filter p).length := by
      clear hi hp hq i
      induction l with
      | nil => simp
      | cons y l ih =>
        simp only [List.filter_cons]
        by_cases hy : q y = true
        · rw [if_pos hy, if_pos (h y hy)]; simpa using ih
        · rw [if_neg hy]
          split
          · simp; omega
          · exact ih
    simp only [List.filter_cons]
    rcases List.mem_cons.1 hi with rfl | hi
    · rw [if_pos hp, if_neg (by simp [hq])]
      simp; omega
    · have ih := filter_lt h i hi hp hq
      by_cases hx : q x = true
      · rw [if_pos hx, if_pos (h x hx)]; simpa using ih
      · rw [if_neg hx]
        split
        · simp; omega
        · exact ih
/-- How many are not done. -/
def undone (n : Nat) (listed : Array Bool) : Nat := ((List.range n).filter fun i => !listed.getD i true).length
section
variable {P : Program} {ops : Array Oper} {Q : Exit → Act → World → Prop} {md : Region.Mode}
theorem ready_spec {listed : Array Bool} {i : Nat} (h : i ∈ Region.ready md ops listed) : i < ops.size ∧ listed.getD i true = false ∧ ∀ o, ops[i]? = some o → ∀ e ∈ o.after, Region.binds md e = true → listed.getD e.on false = true := by
  unfold Region.ready at h
  obtain ⟨h1, h2⟩ := List.mem_filter.1 h
  have h1 := List.mem_range.1 h1
  simp only [Bool.and_eq_true, Bool.not_eq_true'] at h2
  refine ⟨h1, h2.1, fun o ho e he hb => ?_⟩
  have h3 := h2.2
  rw [ho] at h3
  simp only [Option.map_some, Option.getD_some] at h3
  have := Array.all_eq_true_iff_forall_mem.1 h3 e he
  simpa [hb] using this
theorem set_getD {listed : Array Bool} {i j : Nat} (h : listed.getD i true = false) : (listed.setIfInBounds i true).getD j true = (if j = i then true else listed.getD j true) := by
  have hi : i < listed.size := by
    rcases Nat.lt_or_ge i listed.size with h1 | h1
    · exact h1
    · simp [Array.getD, Nat.not_lt.2 h1] at h
  by_cases hj : j = i
  · subst hj
    simp [Array.getD, hi]
  · rw [if_neg hj]
    simp only [Array.getD, Array.size_setIfInBounds]
    split
    · rename_i hlt
      exact Array.getElem_setIfInBounds_ne hlt (Ne.symm hj)
    · rfl
theorem undone_lt {listed : Array Bool} {i : Nat} (h : i ∈ Region.ready md ops listed) : undone ops.size (listed.setIfInBounds i true) < undone ops.size listed := by
  obtain ⟨h1, h2, _⟩ := ready_spec h
  refine filter_lt (fun x hx => ?_) i (List.mem_range.2 h1) (by simp [h2]) (by rw [set_getD h2]; simp)
  rw [set_getD h2] at hx
  split at hx
  · simp at hx
  · exact hx
theorem wpAny_inv {I : Array Bool → Act → World → Prop}
    (hstep : ∀ listed a w i, I listed a w → i ∈ Region.ready md ops listed → wpOp P ops Q i (I (listed.setIfInBounds i true)) a w)
    (hend : ∀ listed a w, I listed a w → Region.ready md ops listed = [] → Q .normal a w) :
    ∀ (fuel : Nat) (listed : Array Bool) (a : Act) (w : World), undone ops.size listed ≤ fuel → I listed a w → wpAny P md ops Q fuel listed a w
  | 0, listed, a, w, hf, hI => by
    have hr : Region.ready md ops listed = [] := by
      cases hc : Region.ready md ops listed with
      | nil => rfl
      | cons i l =>
        have := undone_lt (md := md) (ops := ops) (listed := listed) (i := i) (by rw [hc]; simp)
        omega
    exact ⟨hr, hend listed a w hI hr⟩
  | fuel + 1, listed, a, w, hf, hI =>
    ⟨hend listed a w hI, fun i hi => wpOp_mono (fun a' w' h => wpAny_inv hstep hend fuel _ a' w' (by have := undone_lt hi; omega) h) (hstep listed a w i hI hi)⟩
/-- The least one that is not done may come up, where each waits for earlier ones alone. -/
theorem all_done {listed : Array Bool} (hd : ∀ i o, ops[i]? = some o → ∀ e ∈ o.after, Region.binds md e = true → e.on < i) (h : Region.ready md ops listed = []) (hs : listed.size = ops.size) : ∀ i, i < ops.size → listed.getD i false = true := by
  intro i
  induction i using Nat.strongRecOn with
  | _ i ih =>
    intro hi
    cases hc : listed.getD i false with
    | true => rfl
    | false =>
      exfalso
      have hm : i ∈ Region.ready md ops listed := by
        unfold Region.ready
        refine List.mem_filter.2 ⟨List.mem_range.2 hi, ?_⟩
        have ho : ops[i]? = some ops[i] := Array.getElem?_eq_getElem hi
        have h1 : listed.getD i true = false := by
          simp [Array.getD, hs, hi] at hc ⊢
          exact hc
        rw [ho]
        simp only [h1, Option.map_some, Option.getD_some, Bool.not_false, Bool.true_and]
        refine Array.all_eq_true_iff_forall_mem.2 fun e he => ?_
        cases hb : Region.binds md e with
        | false => simp
        | true =>
          have hlt := hd i _ ho e he hb
          simp [ih e.on hlt (by omega)]
      rw [h] at hm
      cases hm
end
/-- The frame while a region runs: what no operation writes stays. -/
structure Fr (ops : Array Oper) (a0 : Act) (w0 : World) (a : Act) (w : World) : Prop where
  size : a.tmps.size = a0.tmps.size
  defers : a.defers = a0.defers
  upd : Upd (fun _ => False) w0 w
  keep : ∀ k, (ops.any fun o => o.dst == some k) = false → a.tmps.getD k undef = a0.tmps.getD k undef
/-- The region's form: nobody is guarded, all but the last yield into slots of their own, each waits for earlier ones alone, the last for all. -/
def regionForm (ops : Array Oper) (n : Nat) : Bool :=
  let l := ops.size - 1
  decide (0 < ops.size) &&
  (List.range ops.size).all (fun i => match ops[i]? with
    | none => false
    | some o => o.guard.isNone && o.after.all (fun e => !Region.binds .any e || decide (e.on < i)) &&
      (if i = l then o.dst.isNone && (List.range l).all (fun j => (o.after.any fun e => Region.binds .any e && e.on == j) || (o.after.any fun e => Region.binds .any e && match ops[e.on]? with
          | none => false
          | some o' => o'.after.any fun e' => Region.binds .any e' && e'.on == j))
       else match o.dst with
        | none => false
        | some k => decide (k < n) && (List.range ops.size).all fun j => j == i || match ops[j]? with
          | none => true
          | some o' => o'.dst != some k))
section
variable {P : Program} {ops : Array Oper} {Q : Exit → Act → World → Prop}
theorem form_at {n : Nat} (h : regionForm ops n = true) {i : Nat} {o : Oper} (ho : ops[i]? = some o) :
    o.guard = none ∧ (∀ e ∈ o.after, Region.binds .any e = true → e.on < i) ∧ (i = ops.size - 1 → o.dst = none ∧ ∀ j, j < ops.size - 1 → (∃ e ∈ o.after, Region.binds .any e = true ∧ e.on = j) ∨ ∃ e ∈ o.after, Region.binds .any e = true ∧ ∃ o', ops[e.on]? = some o' ∧ ∃ e' ∈ o'.after, Region.binds .any e' = true ∧ e'.on = j) ∧ (i ≠ ops.size - 1 → ∃ k, o.dst = some k ∧ k < n ∧ ∀ j o', j ≠ i → ops[j]? = some o' → o'.dst ≠ some k) := by
  unfold regionForm at h
  simp only [Bool.and_eq_true, decide_eq_true_eq, List.all_eq_true, List.mem_range] at h
  have hi := (Array.getElem?_eq_some_iff.1 ho).1
  have h1 := h.2 i hi
  rw [ho] at h1
  simp only [Bool.and_eq_true] at h1
  obtain ⟨⟨hg, ha⟩, hr⟩ := h1
  refine ⟨by simpa using hg, fun e he hb => ?_, fun hl => ?_, fun hl => ?_⟩
  · have := Array.all_eq_true_iff_forall_mem.1 ha e he
    simpa [hb] using this
  · rw [if_pos hl] at hr
    simp only [Bool.and_eq_true, List.all_eq_true, List.mem_range] at hr
    refine ⟨by simpa using hr.1, fun j hj => ?_⟩
    rcases (Bool.or_eq_true _ _).mp (hr.2 j hj) with h3 | h3
    · obtain ⟨e, he, hb⟩ := Array.any_eq_true'.1 h3
      simp only [Bool.and_eq_true, beq_iff_eq] at hb
      exact .inl ⟨e, he, hb.1, hb.2⟩
    · obtain ⟨e, he, hb⟩ := Array.any_eq_true'.1 h3
      simp only [Bool.and_eq_true] at hb
      obtain ⟨hb1, hb2⟩ := hb
      split at hb2
      · cases hb2
      · rename_i o' ho'
        obtain ⟨e', he', hb'⟩ := Array.any_eq_true'.1 hb2
        simp only [Bool.and_eq_true, beq_iff_eq] at hb'
        exact .inr ⟨e, he, hb1, o', ho', e', he', hb'.1, hb'.2⟩
  · rw [if_neg hl] at hr
    split at hr
    · cases hr
    · rename_i k hk
      simp only [Bool.and_eq_true, decide_eq_true_eq, List.all_eq_true, List.mem_range] at hr
      refine ⟨k, hk, hr.1, fun j o' hj ho' => ?_⟩
      have := hr.2 j (Array.getElem?_eq_some_iff.1 ho').1
      rw [ho'] at this
      simpa [hj] using this
theorem put_getD {a : Act} {k k' : Nat} {v : Value} (hk : k < a.tmps.size) : (a.put (some k) v).tmps.getD k' undef = if k' = k then v else a.tmps.getD k' undef := by
  unfold Act.put
  by_cases h : k' = k
  · subst h
    simp [Array.getD, hk]
  · rw [if_neg h]
    simp only [Array.getD, Array.size_setIfInBounds]
    split
    · rename_i hlt
      exact Array.getElem_setIfInBounds_ne hlt (Ne.symm h)
    · rfl
theorem wp_region_inv {id : Nat} {a0 : Act} {w0 : World} (hm : P.follows .mixedOrders = true) (hf : regionForm ops a0.tmps.size = true)
    (Φ : Nat → Value → World → Prop) (hstab : ∀ j v w w', Φ j v w → Upd (fun _ => False) w w' → Φ j v w')
    (hstep : ∀ j o k, ops[j]? = some o → j ≠ ops.size - 1 → o.dst = some k → ∀ a w, Fr ops a0 w0.drew a w → (∀ e ∈ o.after, Region.binds .any e = true → ∀ o' k', ops[e.on]? = some o' → o'.dst = some k' → Φ e.on (a.tmps.getD k' undef) w) →
      Oper.wp P o a w (fun a' w' => ∃ v, a' = a.put o.dst v ∧ Upd (fun _ => False) w w' ∧ Φ j v w') Q)
    (hlast : ∀ o, ops[ops.size - 1]? = some o → ∀ a w, Fr ops a0 w0.drew a w → (∀ j o' k, ops[j]? = some o' → j ≠ ops.size - 1 → o'.dst = some k → Φ j (a.tmps.getD k undef) w) → Oper.wp P o a w (fun a' w' => Q .normal a' w') Q) :
    (Code.region id ops true).wp P Q a0 w0 := by
  refine wp_region_any hm ?_
  refine wpAny_inv (I := fun listed a w => listed.size = ops.size ∧ (∀ i o, ops[i]? = some o → listed.getD i false = true → ∀ e ∈ o.after, Region.binds .any e = true → listed.getD e.on false = true) ∧ ((listed.getD (ops.size - 1) false = false ∧ Fr ops a0 w0.drew a w ∧ ∀ j o k, ops[j]? = some o → j ≠ ops.size - 1 → o.dst = some k → listed.getD j false = true → Φ j (a.tmps.getD k undef) w) ∨ (listed.getD (ops.size - 1) false = true ∧ (∀ j, j < ops.size → listed.getD j false = true) ∧ Q .normal a w))) ?_ ?_ _ _ _ _ ?_ ?_
  · rintro listed a w i ⟨hsz, hcl, hI⟩ hi
    obtain ⟨hlt, hun, hdep⟩ := ready_spec hi
    have ho : ops[i]? = some ops[i] := Array.getElem?_eq_getElem hlt
    have hunf : listed.getD i false = false := by
      have : i < listed.size := by omega
      simp [Array.getD, this] at hun ⊢
      exact hun
    rcases hI with ⟨hl, hfr, hph⟩ | ⟨hl, hall, _⟩
    · obtain ⟨hg, htop, hlst, hnl⟩ := form_at hf ho
      have hsz' : (listed.setIfInBounds i true).size = ops.size := by simp [hsz]
      have hget : ∀ j, (listed.setIfInBounds i true).getD j false = if j = i then true else listed.getD j false := by
        intro j
        by_cases hj : j = i
        · subst hj
          have : j < listed.size := by omega
          simp [Array.getD, this]
        · rw [if_neg hj]
          simp only [Array.getD, Array.size_setIfInBounds]
          split
          · rename_i h2
            exact Array.getElem_setIfInBounds_ne h2 (Ne.symm hj)
          · rfl
      have hcl' : ∀ j o, ops[j]? = some o → (listed.setIfInBounds i true).getD j false = true → ∀ e ∈ o.after, Region.binds .any e = true → (listed.setIfInBounds i true).getD e.on false = true := by
        intro j o hj hlj e he hb
        rw [hget] at hlj ⊢
        split
        · rfl
        · split at hlj
          · rename_i hji
            subst hji
            exact hdep _ hj e he hb
          · exact hcl _ _ hj hlj e he hb
      unfold wpOp
      rw [ho]
      have hw : Region.wanted ops[i] (yielded ops a.tmps) = true := by simp [Region.wanted, hg]
      simp only [hw, if_true]
      by_cases hil : i = ops.size - 1
      · obtain ⟨hdn, hcov⟩ := hlst hil
        have hall : ∀ j, j < ops.size - 1 → listed.getD j false = true := fun j hj => by
          rcases hcov j hj with ⟨e, he, hb, rfl⟩ | ⟨e, he, hb, o', ho', e', he', hb', rfl⟩
          · exact hdep _ ho e he hb
          · exact hcl _ _ ho' (hdep _ ho e he hb) e' he' hb'
        refine .inl (Oper.wp_mono (fun a' w' h => ⟨hsz', hcl', .inr ⟨?_, ?_, h⟩⟩) (hlast _ (hil ▸ ho) a w hfr (fun j o' k hj hne hk => hph j o' k hj hne hk (hall j (by have := (Array.getElem?_eq_some_iff.1 hj).1; omega)))))
        · rw [hget, if_pos hil.symm]
        · intro j hj
          rw [hget]
          split
          · rfl
          · exact hall j (by omega)
      · obtain ⟨k, hk, hkn, hone⟩ := hnl hil
        refine .inl (Oper.wp_mono (fun a' w' h => ⟨hsz', hcl', .inl ?_⟩) (hstep i _ k ho hil hk a w hfr (fun e he hb o' k' ho' hk' => hph e.on o' k' ho' (fun hc => by
          have := hdep _ ho e he hb
          rw [hc, hl] at this
          cases this) hk' (hdep _ ho e he hb))))
        obtain ⟨v, rfl, hu, hv⟩ := h
        have hka : k < a.tmps.size := by rw [hfr.size]; exact hkn
        rw [hk]
        refine ⟨by rw [hget, if_neg (Ne.symm hil)]; exact hl, ⟨(by have := hfr.size; simp [Act.put, this]), hfr.defers, hfr.upd.trans hu (fun _ h => h.elim), fun k' hk' => ?_⟩, fun j o k' hj hne hk' hlj => ?_⟩
        · rw [put_getD hka]
          split
          · rename_i he
            exfalso
            have : (ops.any fun o => o.dst == some k') = true := Array.any_eq_true'.2 ⟨ops[i], Array.getElem_mem hlt, by rw [hk, he]; simp⟩
            rw [hk'] at this
            cases this
          · exact hfr.keep k' hk'
        · rw [put_getD hka]
          by_cases hji : j = i
          · subst hji
            rw [ho] at hj
            injection hj with hj
            subst hj
            rw [hk] at hk'
            injection hk' with hk'
            rw [if_pos hk'.symm]
            exact hv
          · rw [hget, if_neg hji] at hlj
            have : k' ≠ k := fun hc => hone j o hji hj (by rw [hk', hc])
            rw [if_neg this]
            exact hstab _ _ _ _ (hph j o k' hj hne hk' hlj) hu
    · have := hall i hlt
      rw [hunf] at this
      cases this
  · rintro listed a w ⟨hsz, _, hI⟩ hr
    have hall := all_done (fun i o ho => (form_at hf ho).2.1) hr hsz
    rcases hI with ⟨hl, _⟩ | ⟨_, _, hq⟩
    · unfold regionForm at hf
      simp only [Bool.and_eq_true, decide_eq_true_eq] at hf
      have := hall (ops.size - 1) (by omega)
      rw [hl] at this
      cases this
    · exact hq
  · unfold undone
    have := List.length_filter_le (fun i => !(Array.replicate ops.size false).getD i true) (List.range ops.size)
    simpa using this
  · have hrep : ∀ j, (Array.replicate ops.size false).getD j false = false := fun j => by
      simp only [Array.getD]
      split
      · simp
      · rfl
    refine ⟨by simp, (fun i o _ h => by rw [hrep] at h; cases h), .inl ⟨hrep _, ⟨rfl, rfl, Upd.refl _ _, fun _ _ => rfl⟩, fun j o k _ _ _ h => ?_⟩⟩
    rw [hrep] at h
    cases h
/-- The slots behind a region: those that it writes by letters. -/
def pickv : List Bool → List Value → (Nat → Value) → Nat → List Value
  | true :: bs, _ :: vs, f, k => f k :: pickv bs vs f (k + 1)
  | false :: bs, v :: vs, f, k => v :: pickv bs vs f (k + 1)
  | _, _, _, _ => []
theorem pickv_len : ∀ {bs : List Bool} {vs : List Value} {f : Nat → Value} {k : Nat}, bs.length = vs.length → (pickv bs vs f k).length = vs.length
  | [], [], f, k, _ => rfl
  | [], _ :: _, f, k, h => by simp at h
  | _ :: _, [], f, k, h => by simp at h
  | true :: bs, v :: vs, f, k, h => by simp [pickv, pickv_len (bs := bs) (vs := vs) (f := f) (k := k + 1) (by simpa using h)]
  | false :: bs, v :: vs, f, k, h => by simp [pickv, pickv_len (bs := bs) (vs := vs) (f := f) (k := k + 1) (by simpa using h)]
theorem pickv_get : ∀ {bs : List Bool} {vs : List Value} {f : Nat → Value} {k i : Nat} {b : Bool} {v : Value}, bs[i]? = some b → vs[i]? = some v → (pickv bs vs f k)[i]? = some (if b then f (k + i) else v)
  | [], vs, f, k, i, b, v, h, _ => by simp at h
  | _ :: _, [], f, k, i, b, v, _, h => by simp at h
  | true :: bs, u :: vs, f, k, 0, b, v, h, h' => by simp at h h'; subst h h'; simp [pickv]
  | false :: bs, u :: vs, f, k, 0, b, v, h, h' => by simp at h h'; subst h h'; simp [pickv]
  | true :: bs, u :: vs, f, k, i + 1, b, v, h, h' => by
    have := pickv_get (f := f) (k := k + 1) (i := i) (bs := bs) (vs := vs) (by simpa using h) (by simpa using h')
    simp only [pickv, List.getElem?_cons_succ, this, show k + 1 + i = k + (i + 1) by omega]
  | false :: bs, u :: vs, f, k, i + 1, b, v, h, h' => by
    have := pickv_get (f := f) (k := k + 1) (i := i) (bs := bs) (vs := vs) (by simpa using h) (by simpa using h')
    simp only [pickv, List.getElem?_cons_succ, this, show k + 1 + i = k + (i + 1) by omega]
theorem Fr.act {a0 a : Act} {w0 w : World} (h : Fr ops a0 w0 a w) (mask : List Bool) (hmask : ((List.range a0.tmps.size).map fun k => ops.any fun o => o.dst == some k) = mask) :
    a = ⟨(pickv mask a0.tmps.toList (fun k => a.tmps.getD k undef) 0).toArray, a0.defers⟩ := by
  subst hmask
  obtain ⟨ts, ds⟩ := a
  obtain ⟨h1, h2, h3, h4⟩ := h
  simp only at h1 h2 h4
  subst h2
  congr 1
  have hlen := pickv_len (bs := (List.range a0.tmps.size).map fun k => ops.any fun o => o.dst == some k) (vs := a0.tmps.toList) (f := fun k => ts.getD k undef) (k := 0) (by simp)
  refine Array.ext (h1.trans hlen.symm) fun i hi hi' => ?_
  have hi0 : i < a0.tmps.size := by omega
  have hp := pickv_get (bs := (List.range a0.tmps.size).map fun k => ops.any fun o => o.dst == some k) (vs := a0.tmps.toList) (f := fun k => ts.getD k undef) (k := 0) (i := i) (b := ops.any fun o => o.dst == some i) (v := a0.tmps[i]) (by simp [hi0]) (by simp [hi0])
  have hg : ts.getD i undef = ts[i] := by simp [Array.getD, hi]
  have hg0 : a0.tmps.getD i undef = a0.tmps[i] := by simp [Array.getD, hi0]
  have : some ts[i] = (pickv ((List.range a0.tmps.size).map fun k => ops.any fun o => o.dst == some k) a0.tmps.toList (fun k => ts.getD k undef) 0)[i]? := by
    rw [hp]
    cases hb : ops.any fun o => o.dst == some i with
    | true => simp [hg]
    | false => rw [if_neg (by simp), ← hg, h4 i hb, hg0]
  rw [List.getElem?_eq_getElem (by simpa using hi')] at this
  simpa using this
end
end Go.Proofs.Ytninaaolbgchpaa
