/- What batches keep: the plain law. -/
import Derived.Test.YtdfnhbhcgkdplaaAll
namespace Go.Proofs.Ytdfnhbhcgkdplaa
open Go.RowKit
set_option linter.unusedVariables false
set_option linter.unusedSimpArgs false

theorem idx_get : ∀ {xs : List Int} {a : Int}, idx xs a < xs.length → xs[idx xs a]? = some a
  | [], a, h => by simp [idx] at h
  | x :: xs, a, h => by
    unfold idx at h ⊢
    split
    · rename_i he
      subst he
      rfl
    · rename_i he
      rw [if_neg he] at h
      have := idx_get (xs := xs) (a := a) (by simpa using h)
      simpa using this
theorem idx_ne : ∀ {xs : List Int} {a : Int}, ¬ idx xs a < xs.length → ∀ (j : Nat) x, xs[j]? = some x → x ≠ a
  | [], a, h, j, x, hx => by simp at hx
  | y :: xs, a, h, j, x, hx => by
    unfold idx at h
    split at h
    · simp at h
    · rename_i he
      cases j with
      | zero => simp at hx; subst hx; exact he
      | succ j => exact idx_ne (xs := xs) (a := a) (by simpa using h) j x (by simpa using hx)
theorem snoc_get {α : Type} {l : List α} {x y : α} {i : Nat} (h : (l ++ [x])[i]? = some y) : (i < l.length ∧ l[i]? = some y) ∨ (i = l.length ∧ y = x) := by
  by_cases hi : i < l.length
  · rw [List.getElem?_append_left hi] at h
    exact .inl ⟨hi, h⟩
  · rw [List.getElem?_append_right (by omega)] at h
    have h0 : i - l.length < 1 := by have := (List.getElem?_eq_some_iff.1 h).1; simpa using this
    have h1 : i - l.length = 0 := by omega
    rw [h1] at h
    simp at h
    exact .inr ⟨by omega, h.symm⟩
theorem get_snoc {α : Type} {l : List α} {x y : α} {i : Nat} (h : l[i]? = some y) : (l ++ [x])[i]? = some y := by
  rw [List.getElem?_append_left (List.getElem?_eq_some_iff.1 h).1]
  exact h

/-- What holds of a batch and of those that it took. -/
structure BI (s : BS) : Prop where
  pl : ∀ (i : Nat) m x, s.2.1[i]? = some m → s.2.2[i]? = some x → m.1 = x.1 ∧ 0 ≤ m.2 ∧ s.1[m.2.toNat]? = some x.2
  ln : s.2.1.length = s.2.2.length
  nd : ∀ (i k : Nat) a, s.1[i]? = some a → s.1[k]? = some a → i = k
theorem BI.step {most : Int} (s : BS) (x : Int × Int) (h : BI s) : BI (bstep most s x) := by
  rcases bstep_cases most s x with e | ⟨h1, e⟩ | ⟨h1, h2, e⟩
  · rw [e]; exact h
  · rw [e]
    refine ⟨fun i m y hm hy => ?_, by simp [h.ln], h.nd⟩
    rcases snoc_get hm with ⟨a, b⟩ | ⟨a, rfl⟩
    · rcases snoc_get hy with ⟨c, d⟩ | ⟨c, rfl⟩
      · exact h.pl i m y b d
      · have := h.ln; omega
    · rcases snoc_get hy with ⟨c, d⟩ | ⟨c, rfl⟩
      · have := h.ln; omega
      · exact ⟨rfl, by simp, by simpa using idx_get h1⟩
  · rw [e]
    refine ⟨fun i m y hm hy => ?_, by simp [h.ln], fun i k a hi hk => ?_⟩
    · rcases snoc_get hm with ⟨a, b⟩ | ⟨a, rfl⟩
      · rcases snoc_get hy with ⟨c, d⟩ | ⟨c, rfl⟩
        · obtain ⟨p, q, r⟩ := h.pl i m y b d
          exact ⟨p, q, get_snoc r⟩
        · have := h.ln; omega
      · rcases snoc_get hy with ⟨c, d⟩ | ⟨c, rfl⟩
        · have := h.ln; omega
        · exact ⟨rfl, by simp, by simp⟩
    · rcases snoc_get hi with ⟨p, q⟩ | ⟨p, rfl⟩
      · rcases snoc_get hk with ⟨r, t⟩ | ⟨r, rfl⟩
        · exact h.nd i k a q t
        · exact absurd rfl (idx_ne h1 i _ q)
      · rcases snoc_get hk with ⟨r, t⟩ | ⟨r, _⟩
        · exact absurd rfl (idx_ne h1 k _ t)
        · omega
theorem ball_inv (most : Int) (l : List (Int × Int)) : BI (ball most l) := by
  cases l with
  | nil => exact ⟨fun i m x h => by simp [ball] at h, rfl, fun i k a h => by simp [ball] at h⟩
  | cons v vs =>
    refine bfold_inv (fun s x h => h.step s x) _ _ ⟨fun i m x hm hx => ?_, rfl, fun i k a hi hk => ?_⟩
    · cases i with
      | zero => simp at hm hx; subst hm hx; exact ⟨rfl, by simp, rfl⟩
      | succ i => simp at hm
    · cases i with
      | zero => cases k with
        | zero => rfl
        | succ k => simp at hk
      | succ i => simp at hi
theorem ball_most {most : Int} (h1 : 1 ≤ most) (l : List (Int × Int)) : ((ball most l).1.length : Int) ≤ most := by
  cases l with
  | nil => show ((0 : Nat) : Int) ≤ most; omega
  | cons v vs =>
    refine bfold_inv (P := fun s : BS => (s.1.length : Int) ≤ most) (fun s x h => ?_) _ _ (by simpa using h1)
    rcases bstep_cases most s x with e | ⟨_, e⟩ | ⟨_, h2, e⟩
    · rw [e]; exact h
    · rw [e]; exact h
    · rw [e]; simp; omega
theorem bfold_le {most : Int} : ∀ (vs : List (Int × Int)) (k : Nat) (s : BS), BSle k s → BSle (k + vs.length) (bfold most s vs)
  | [], k, s, h => h
  | v :: vs, k, s, h => by
    have := bfold_le (most := most) vs (k + 1) (bstep most s v) (bstep_le v h)
    rw [List.length_cons, show k + (vs.length + 1) = k + 1 + vs.length by omega]
    exact this
theorem ball_le (most : Int) (l : List (Int × Int)) : (ball most l).1.length ≤ 20 ∧ (ball most l).2.1.length ≤ 20 ∧ (ball most l).2.2.length ≤ 20 := by
  cases l with
  | nil => exact ⟨by simp [ball], by simp [ball], by simp [ball]⟩
  | cons v vs =>
    have h := bfold_le (most := most) (vs.take 19) 1 ([v.2], [(v.1, 0)], [v]) ⟨by simp, by simp, by simp, by simp, by simp⟩
    have h19 : (vs.take 19).length ≤ 19 := by simp; omega
    obtain ⟨_, h1, _, h2, h3⟩ := h
    exact ⟨by show (bfold most _ _).1.length ≤ 20; omega, by show (bfold most _ _).2.1.length ≤ 20; omega, by show (bfold most _ _).2.2.length ≤ 20; omega⟩
/-- Values as many as arguments are split. -/
theorem psplit_ok {vals : List Int} : ∀ {ms : List (Int × Int)}, (∀ m ∈ ms, 0 ≤ m.2 ∧ m.2.toNat < vals.length) → ∃ l, psplit vals ms = some l
  | [], h => ⟨[], rfl⟩
  | m :: ms, h => by
    obtain ⟨l, hl⟩ := psplit_ok (ms := ms) (fun m hm => h m (by simp [hm]))
    obtain ⟨h1, h2⟩ := h m (by simp)
    have hv : vat vals m.2 = some (vals[m.2.toNat]'h2) := by unfold vat; rw [if_pos h1]; exact List.getElem?_eq_getElem _
    exact ⟨(m.1, vals[m.2.toNat]'h2) :: l, by unfold psplit; rw [hv]; simp [hl]⟩
theorem ball_split (most : Int) (l : List (Int × Int)) {vals : List Int} (h : vals.length = (ball most l).1.length) : ∃ p, psplit vals (ball most l).2.1 = some p := by
  refine psplit_ok fun m hm => ?_
  obtain ⟨i, hi⟩ := List.mem_iff_getElem?.1 hm
  have hI := ball_inv most l
  have hlt : i < (ball most l).2.2.length := by have := (List.getElem?_eq_some_iff.1 hi).1; have := hI.ln; omega
  obtain ⟨_, h1, h2⟩ := hI.pl i m _ hi (List.getElem?_eq_getElem hlt)
  exact ⟨h1, by have := (List.getElem?_eq_some_iff.1 h2).1; omega⟩
end Go.Proofs.Ytdfnhbhcgkdplaa
