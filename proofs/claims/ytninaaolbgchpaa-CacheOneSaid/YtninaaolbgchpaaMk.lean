/- Maps as lists of keys and values. -/
import Derived.Test.YtninaaolbgchpaaMp
namespace Go.Proofs.Ytninaaolbgchpaa
open Go.RowKit
open Go.Maps (Keyed IsMap Tidy)
set_option linter.unusedVariables false
set_option linter.unusedSimpArgs false
section
variable {κ : Type} {kl : κ → Lit} {ok : κ → Prop}
/-- A map holds these keys, each with its value. -/
def Lk (kl : κ → Lit) (ok : κ → Prop) (D : DataW Value) (l : List (κ × Value)) : Prop :=
  (∃ es, D = .map es ∧ es.Perm (l.map fun p => (kl p.1, .held p.2))) ∧ (l.map Prod.fst).Nodup ∧ ∀ p ∈ l, ok p.1
theorem Lk.nil : Lk kl ok (.map []) [] := ⟨⟨[], rfl, .refl _⟩, List.nodup_nil, fun p h => by cases h⟩
variable {D : DataW Value} {l l' : List (κ × Value)}
theorem Lk.isMap (h : Lk kl ok D l) : IsMap D := by obtain ⟨⟨es, rfl, _⟩, _⟩ := h; exact ⟨es, rfl⟩
theorem Lk.size (h : Lk kl ok D l) : Maps.size D = l.length := by
  obtain ⟨⟨es, rfl, hp⟩, _⟩ := h
  rw [Maps.size_eq, hp.length_eq, List.length_map]
theorem Lk.perm (h : Lk kl ok D l) (hl : l.Perm l') : Lk kl ok D l' := by
  obtain ⟨⟨es, rfl, hp⟩, hn, ho⟩ := h
  exact ⟨⟨es, rfl, hp.trans (hl.map _)⟩, ((hl.map Prod.fst).nodup_iff).1 hn, fun p hp => ho p (hl.mem_iff.2 hp)⟩
end
section
variable {κ : Type} [DecidableEq κ] {kl : κ → Lit} {ok : κ → Prop} {D : DataW Value} {l l' : List (κ × Value)}
/-- Keys are told apart. -/
structure Klit (kl : κ → Lit) (ok : κ → Prop) : Prop where
  key : ∀ x, WideAt.IsKeyLit (kl x)
  inj : ∀ x y, ok x → ok y → kl x = kl y → x = y
/-- What stands at a key. -/
def lk (l : List (κ × Value)) (x : κ) : Option Value := (l.find? (fun p => decide (p.1 = x))).map Prod.snd
/-- Without a key. -/
def lwo (l : List (κ × Value)) (x : κ) : List (κ × Value) := l.filter (fun p => decide (p.1 ≠ x))
def lput (l : List (κ × Value)) (x : κ) (v : Value) : List (κ × Value) := (x, v) :: lwo l x
theorem lk_nil (x : κ) : lk [] x = none := rfl
theorem lk_put_same (l : List (κ × Value)) (x : κ) (v : Value) : lk (lput l x v) x = some v := by simp [lk, lput]
theorem lk_wo_same (l : List (κ × Value)) (x : κ) : lk (lwo l x) x = none := by
  unfold lk lwo
  rw [List.find?_eq_none.2 (fun p hp => by have := (List.mem_filter.1 hp).2; simpa using this)]
  rfl
theorem lk_wo_other {l : List (κ × Value)} {x y : κ} (h : y ≠ x) : lk (lwo l x) y = lk l y := by
  unfold lk lwo
  induction l with
  | nil => rfl
  | cons p l ih =>
    by_cases hp : p.1 = x
    · rw [List.filter_cons_of_neg (by simp [hp]), ih, List.find?_cons_of_neg (by simp [hp, Ne.symm h])]
    · rw [List.filter_cons_of_pos (by simp [hp])]
      by_cases hy : p.1 = y
      · rw [List.find?_cons_of_pos (by simp [hy]), List.find?_cons_of_pos (by simp [hy])]
      · rw [List.find?_cons_of_neg (by simp [hy]), List.find?_cons_of_neg (by simp [hy]), ih]
theorem lk_put_other {l : List (κ × Value)} {x y : κ} (v : Value) (h : y ≠ x) : lk (lput l x v) y = lk l y := by
  have : lk (lput l x v) y = lk (lwo l x) y := by simp [lk, lput, Ne.symm h]
  rw [this, lk_wo_other h]
theorem filter_keys (K : Klit kl ok) {x : κ} (hx : ok x) (ho : ∀ p ∈ l, ok p.1) : ((l.map fun p => (kl p.1, (DataW.held p.2 : DataW Value))).filter fun p => !p.1.sameKey (kl x)) = (lwo l x).map fun p => (kl p.1, .held p.2) := by
  unfold lwo
  rw [List.filter_map]
  congr 1
  refine List.filter_congr fun p hp => ?_
  simp only [Function.comp]
  by_cases h : p.1 = x
  · rw [h, WideAt.sameKey_self (K.key x)]; simp
  · have : (kl p.1).sameKey (kl x) = false := by
      cases hs : (kl p.1).sameKey (kl x) with
      | false => rfl
      | true => exact absurd (K.inj _ _ (ho p hp) hx (WideAt.sameKey_eq hs)) h
    rw [this]; simp [h]
theorem lwo_nodup (h : (l.map Prod.fst).Nodup) (x : κ) : ((lwo l x).map Prod.fst).Nodup := h.sublist ((List.filter_sublist).map _)
theorem Lk.del (K : Klit kl ok) (h : Lk kl ok D l) {x : κ} (hx : ok x) : Lk kl ok (D.del (kl x)) (lwo l x) := by
  obtain ⟨⟨es, rfl, hp⟩, hn, ho⟩ := h
  refine ⟨⟨_, rfl, ?_⟩, lwo_nodup hn x, fun p hp => ho p ((List.mem_filter.1 hp).1)⟩
  rw [← filter_keys K hx ho]
  exact hp.filter _
theorem Lk.put (K : Klit kl ok) (h : Lk kl ok D l) {x : κ} (hx : ok x) (v : Value) : Lk kl ok (D.put (kl x) (.held v)) (lput l x v) := by
  obtain ⟨⟨es, rfl, hp⟩, hn, ho⟩ := h
  refine ⟨⟨_, rfl, ?_⟩, ?_, fun p hp => ?_⟩
  · refine (WideShapes.insert_perm _ _).trans ?_
    show List.Perm _ ((kl x, DataW.held v) :: (lwo l x).map fun p => (kl p.1, .held p.2))
    rw [← filter_keys K hx ho]
    exact (hp.filter _).cons _
  · show (x :: (lwo l x).map Prod.fst).Nodup
    refine List.nodup_cons.2 ⟨fun hm => ?_, lwo_nodup hn x⟩
    obtain ⟨p, hp, he⟩ := List.mem_map.1 hm
    have := (List.mem_filter.1 hp).2
    simp [he] at this
  · rcases List.mem_cons.1 hp with rfl | hp
    · exact hx
    · exact ho p ((List.mem_filter.1 hp).1)
theorem lk_some {x : κ} {v : Value} (h : lk l x = some v) : (x, v) ∈ l := by
  unfold lk at h
  obtain ⟨p, hp, rfl⟩ := Option.map_eq_some_iff.1 h
  have := List.find?_some hp
  simp only [decide_eq_true_eq] at this
  subst this
  exact List.mem_of_find?_eq_some hp
theorem lk_none {x : κ} (h : lk l x = none) : ∀ p ∈ l, p.1 ≠ x := by
  unfold lk at h
  intro p hp e
  have := List.find?_eq_none.1 (Option.map_eq_none_iff.1 h) p hp
  simp [e] at this
theorem lk_mem (hn : (l.map Prod.fst).Nodup) {x : κ} {v : Value} (h : (x, v) ∈ l) : lk l x = some v := by
  cases hc : lk l x with
  | none => exact absurd rfl (lk_none hc _ h)
  | some u =>
    have hm := lk_some hc
    induction l with
    | nil => cases h
    | cons p l ih =>
      simp only [List.map_cons, List.nodup_cons] at hn
      rcases List.mem_cons.1 h with h1 | h1
      · rcases List.mem_cons.1 hm with h2 | h2
        · rw [← h1] at h2; injection h2 with _ h2; rw [h2]
        · exfalso; subst h1; exact hn.1 (List.mem_map.2 ⟨_, h2, rfl⟩)
      · rcases List.mem_cons.1 hm with h2 | h2
        · exfalso; subst h2; exact hn.1 (List.mem_map.2 ⟨_, h1, rfl⟩)
        · have hne : p.1 ≠ x := fun e => hn.1 (List.mem_map.2 ⟨_, h1, e.symm⟩)
          refine ih hn.2 h1 ?_ h2
          unfold lk at hc ⊢
          rwa [List.find?_cons_of_neg (by simp [hne])] at hc
theorem Lk.at_ (K : Klit kl ok) (h : Lk kl ok D l) {x : κ} (hx : ok x) : mat D (kl x) = lk l x := by
  obtain ⟨⟨es, rfl, hp⟩, hn, ho⟩ := h
  cases hc : lk l x with
  | none =>
    have hno := lk_none hc
    unfold mat
    rw [if_neg]
    rw [Maps.has_eq]
    intro hh
    obtain ⟨q, hq, hs⟩ := List.any_eq_true.1 hh
    obtain ⟨p, hpl, rfl⟩ := List.mem_map.1 (hp.mem_iff.1 hq)
    exact hno p hpl (K.inj _ _ (ho p hpl) hx (WideAt.sameKey_eq hs))
  | some v =>
    have hm := lk_some hc
    have hme : (kl x, DataW.held v) ∈ es := hp.mem_iff.2 (List.mem_map.2 ⟨_, hm, rfl⟩)
    have hany : es.any (fun p => p.1.sameKey (kl x)) = true := List.any_eq_true.2 ⟨_, hme, WideAt.sameKey_self (K.key x)⟩
    unfold mat
    rw [Maps.has_eq, if_pos hany]
    have hs : (es.find? (fun p => p.1.sameKey (kl x))).isSome = true := List.find?_isSome.2 ⟨_, hme, WideAt.sameKey_self (K.key x)⟩
    obtain ⟨q, hq⟩ := Option.isSome_iff_exists.1 hs
    have hqs := List.find?_some hq
    have hqm := List.mem_of_find?_eq_some hq
    obtain ⟨p, hpl, rfl⟩ := List.mem_map.1 (hp.mem_iff.1 hqm)
    have he := K.inj _ _ (ho p hpl) hx (WideAt.sameKey_eq hqs)
    have hv : lk l x = some p.2 := lk_mem hn (by rw [← he]; exact hpl)
    rw [hc] at hv
    injection hv with hv
    simp only [DataW.atKey, hq]
    rw [hv]
end
end Go.Proofs.Ytninaaolbgchpaa
