/- Outcomes: the plain law. -/
import Derived.Test.YtmpacmjlpkhgoaaOw
namespace Go.Proofs.Ytmpacmjlpkhgoaa
open Go.RowKit
set_option linter.unusedVariables false
set_option linter.unusedSimpArgs false

/-- An outcome: id, kind, cause, value, when. -/
abbrev O5 := Int × Int × Int × Int × Int
def o5 (o : O5) : List Value := [.int .i64 o.1, .int .i64 o.2.1, .int .i64 o.2.2.1, .int .i64 o.2.2.2.1, .int .u64 o.2.2.2.2]
theorem o5_len (o : O5) : (o5 o).length = 5 := rfl
theorem o5_inj {a b : O5} (h : o5 a = o5 b) : a = b := by
  obtain ⟨a1, a2, a3, a4, a5⟩ := a
  obtain ⟨b1, b2, b3, b4, b5⟩ := b
  simp [o5] at h
  obtain ⟨rfl, rfl, rfl, rfl, rfl⟩ := h
  rfl
def omay (o : O5) : Bool :=
  if o.2.1 = 1 ∨ o.2.1 = 2 then decide (o.2.2.1 = 0)
  else (decide (o.2.1 = 3) || (decide (o.2.1 = 4) && decide (o.2.2.2.1 = 0))) && (decide (1 ≤ o.2.2.1) && decide (o.2.2.1 ≤ 4))
/-- Where a command's outcome stands. -/
def lix (L : List O5) (id : Int) : Option Nat := L.findIdx? (fun o => o.1 == id)
def lemit (L : List O5) (o : O5) : List O5 × Bool := if omay o = true ∧ lix L o.1 = none then (L ++ [o], true) else (L, false)
def lfold (L l : List O5) : List O5 := l.foldl (fun L o => (lemit L o).1) L
theorem lfold_snoc (L l : List O5) (o : O5) : lfold L (l ++ [o]) = (lemit (lfold L l) o).1 := by simp [lfold]
theorem lix_snoc (L : List O5) (o : O5) (id : Int) : lix (L ++ [o]) id = match lix L id with | some i => some i | none => if o.1 = id then some L.length else none := by
  unfold lix
  rw [List.findIdx?_append]
  cases h : List.findIdx? (fun o => o.1 == id) L with
  | some i => simp
  | none =>
    simp only [Option.none_or]
    by_cases e : o.1 = id
    · simp [List.findIdx?_cons, e]
    · simp [List.findIdx?_cons, e]
theorem lix_some {L : List O5} {id : Int} {i : Nat} (h : lix L id = some i) : ∃ o, L[i]? = some o ∧ o.1 = id := by
  unfold lix at h
  have h1 := List.findIdx?_eq_some_iff_getElem.1 h
  obtain ⟨hlt, h2, _⟩ := h1
  exact ⟨L[i], List.getElem?_eq_getElem hlt, by simpa using h2⟩
theorem lix_lt {L : List O5} {id : Int} {i : Nat} (h : lix L id = some i) : i < L.length := by
  obtain ⟨o, ho, _⟩ := lix_some h
  exact (List.getElem?_eq_some_iff.1 ho).1
/-- Each may be, and stands where it is looked for. -/
def Once (L : List O5) : Prop := ∀ i o, L[i]? = some o → omay o = true ∧ lix L o.1 = some i
theorem once_nil : Once [] := fun i o h => by simp at h
theorem once_emit {L : List O5} (h : Once L) (o : O5) : Once (lemit L o).1 := by
  unfold lemit
  split
  · rename_i hc
    obtain ⟨hm, hn⟩ := hc
    intro i p hp
    simp only at hp ⊢
    rcases Nat.lt_or_ge i L.length with hlt | hge
    · rw [List.getElem?_append_left hlt] at hp
      obtain ⟨h1, h2⟩ := h i p hp
      exact ⟨h1, by rw [lix_snoc, h2]⟩
    · rw [List.getElem?_append_right hge] at hp
      have hi : i = L.length := by
        have := (List.getElem?_eq_some_iff.1 hp).1
        simp at this
        omega
      subst hi
      simp at hp
      subst hp
      exact ⟨hm, by rw [lix_snoc, hn]; simp⟩
  · exact h
theorem once_fold : ∀ {l L : List O5}, Once L → Once (lfold L l)
  | [], L, h => h
  | o :: l, L, h => once_fold (l := l) (once_emit h o)
theorem once_apart {L : List O5} (h : Once L) {i k : Nat} {a b : O5} (ha : L[i]? = some a) (hb : L[k]? = some b) (hne : i ≠ k) : a.1 ≠ b.1 := by
  intro e
  have h1 := (h i a ha).2
  have h2 := (h k b hb).2
  rw [e, h2] at h1
  injection h1 with h1
  exact hne h1.symm
theorem emit_pre (L : List O5) (o : O5) : ∃ t, (lemit L o).1 = L ++ t := by
  unfold lemit
  split
  · exact ⟨[o], rfl⟩
  · exact ⟨[], by simp⟩
theorem fold_pre : ∀ (l L : List O5), ∃ t, lfold L l = L ++ t
  | [], L => ⟨[], by simp [lfold]⟩
  | o :: l, L => by
    obtain ⟨t1, h1⟩ := emit_pre L o
    obtain ⟨t2, h2⟩ := fold_pre l (lemit L o).1
    exact ⟨t1 ++ t2, by show lfold (lemit L o).1 l = _; rw [h2, h1, List.append_assoc]⟩
theorem emit_len (L : List O5) (o : O5) : (lemit L o).1.length ≤ L.length + 1 := by
  unfold lemit
  split <;> simp
theorem fold_len : ∀ (l L : List O5), (lfold L l).length ≤ L.length + l.length
  | [], L => by simp [lfold]
  | o :: l, L => by
    have h1 := emit_len L o
    have h2 := fold_len l (lemit L o).1
    show (lfold (lemit L o).1 l).length ≤ _
    simp only [List.length_cons]
    omega
/-- A command's outcome. -/
def lget (L : List O5) (id : Int) : Option O5 := L.find? (fun o => o.1 == id)
theorem lget_ix : ∀ (L : List O5) (id : Int), lget L id = (lix L id).bind (fun i => L[i]?)
  | [], id => rfl
  | o :: L, id => by
    have ih := lget_ix L id
    unfold lget lix at ih ⊢
    by_cases e : o.1 = id
    · simp [List.findIdx?_cons, e]
    · simp only [List.find?_cons, List.findIdx?_cons]
      have e' : (o.1 == id) = false := by simpa using e
      rw [e']
      simp only [cond_false]
      rw [ih]
      cases List.findIdx? (fun o => o.1 == id) L <;> simp
theorem lget_snoc (L : List O5) (o : O5) (id : Int) : lget (L ++ [o]) id = (lget L id).or (if o.1 = id then some o else none) := by
  unfold lget
  rw [List.find?_append]
  by_cases e : o.1 = id
  · simp [e]
  · simp [e]
theorem lix_none {L : List O5} {id : Int} : lix L id = none ↔ lget L id = none := by
  unfold lix lget
  rw [List.findIdx?_eq_none_iff, List.find?_eq_none]
  simp
/-- The first one that may be. -/
theorem lget_emit (L : List O5) (o : O5) (id : Int) : lget (lemit L o).1 id = (lget L id).or (if o.1 = id ∧ omay o = true then some o else none) := by
  unfold lemit
  split
  · rename_i hc
    rw [lget_snoc]
    by_cases e : o.1 = id
    · rw [if_pos e, if_pos ⟨e, hc.1⟩]
    · rw [if_neg e, if_neg (fun h => e h.1)]
  · rename_i hc
    by_cases e : o.1 = id ∧ omay o = true
    · rw [if_pos e]
      cases hg : lget L id with
      | some x => simp [hg]
      | none =>
        exfalso
        exact hc ⟨e.2, lix_none.2 (by rw [e.1]; exact hg)⟩
    · rw [if_neg e]
      simp
/-- What is so of each one that is emitted is so of all. -/
theorem all_emit {Q : O5 → Prop} {L : List O5} {o : O5} (h : ∀ x ∈ L, Q x) (ho : Q o) : ∀ x ∈ (lemit L o).1, Q x := by
  unfold lemit
  split
  · intro x hx
    rcases List.mem_append.1 hx with hx | hx
    · exact h x hx
    · rw [List.mem_singleton.1 hx]; exact ho
  · exact h
theorem wf_fold {Q : O5 → Prop} : ∀ {l L : List O5}, (∀ x ∈ l, Q x) → (∀ x ∈ L, Q x) → ∀ x ∈ lfold L l, Q x
  | [], L, _, h => h
  | o :: l, L, hl, h => wf_fold (l := l) (fun x hx => hl x (List.mem_cons_of_mem _ hx)) (all_emit h (hl o (List.mem_cons_self ..)))
end Go.Proofs.Ytmpacmjlpkhgoaa
