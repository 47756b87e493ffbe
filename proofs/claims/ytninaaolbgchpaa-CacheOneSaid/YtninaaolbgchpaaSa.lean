/- Slices that came in, as they read. -/
import Derived.Test.YtninaaolbgchpaaSl
namespace Go.Proofs.Ytninaaolbgchpaa
open Go.RowKit
set_option linter.unusedVariables false

theorem prs_inv : ∀ {ms : List (Int × Int)} {j : Nat} {u : Value}, (prs ms)[j]? = some u → ∃ (i : Nat) (m : Int × Int), ms[i]? = some m ∧ ((j = i * 2 + 0 ∧ u = .int .i64 m.1) ∨ (j = i * 2 + 1 ∧ u = .int .i64 m.2))
  | [], j, u, h => by simp [prs] at h
  | m :: ms, j, u, h => by
    have e : prs (m :: ms) = .int .i64 m.1 :: .int .i64 m.2 :: prs ms := by simp [prs]
    rw [e] at h
    match j, h with
    | 0, h => exact ⟨0, m, rfl, .inl ⟨rfl, by simpa using h.symm⟩⟩
    | 1, h => exact ⟨0, m, rfl, .inr ⟨rfl, by simpa using h.symm⟩⟩
    | j + 2, h =>
      obtain ⟨i, m', hi, hor⟩ := prs_inv (ms := ms) (j := j) (u := u) (by simpa using h)
      refine ⟨i + 1, m', by simpa using hi, ?_⟩
      rcases hor with ⟨a, b⟩ | ⟨a, b⟩
      · exact .inl ⟨by omega, b⟩
      · exact .inr ⟨by omega, b⟩
theorem sl_nums {w : World} {A : Option Addr} {len cap : Nat} {L : List (List Value)} (hL : L.length = len) (hle : len ≤ cap) (hcm : cap ≤ maxLen) (hnil : A = none → len = 0 ∧ cap = 0) (hok : ∀ row ∈ L, Oks [.int .i64] row) (hr : Rows w A 1 L) :
    ∃ xs : List Int, xs.length = len ∧ (∀ x ∈ xs, (Lit.int .i64 x).wf = true) ∧ Sl w A len cap (nums xs) := by
  obtain ⟨D, rfl, hD⟩ := decode_rows (enc := fun x => [Value.int .i64 x]) (P := fun x => (Lit.int .i64 x).wf = true) (L := L) (fun row h => by
    obtain ⟨v0, r0, e0, ⟨x, rfl, wx⟩, h1⟩ := (hok row h).cons
    have e1 := h1.nil
    exact ⟨x, by rw [e0, e1], wx⟩)
  refine ⟨D, by simpa using hL, hD, hle, hcm, hnil, ?_⟩
  cases D with
  | nil => exact .inl rfl
  | cons d D =>
    obtain ⟨b, o, hA, hb, hc⟩ := hr.plain (fun _ => by simp) (i := 0) (d := d) rfl
    refine .inr ⟨b, o, hA, hb, fun j u hu => ?_⟩
    simp only [nums, List.getElem?_map, Option.map_eq_some_iff] at hu
    obtain ⟨x, hx, rfl⟩ := hu
    have := hc j x hx 0 _ rfl
    rwa [Nat.mul_one, Nat.add_zero] at this
theorem sl_prs {w : World} {A : Option Addr} {len cap : Nat} {L : List (List Value)} (hL : L.length = len) (hle : len ≤ cap) (hcm : cap ≤ maxLen) (hnil : A = none → len = 0 ∧ cap = 0) (hok : ∀ row ∈ L, Oks [.int .i64, .int .i64] row) (hr : Rows w A 2 L) :
    ∃ xs : List (Int × Int), xs.length = len ∧ (∀ x ∈ xs, (Lit.int .i64 x.1).wf = true ∧ (Lit.int .i64 x.2).wf = true) ∧ Sl w A len cap (prs xs) := by
  obtain ⟨D, rfl, hD⟩ := decode_rows (enc := fun x : Int × Int => [Value.int .i64 x.1, .int .i64 x.2]) (P := fun x => (Lit.int .i64 x.1).wf = true ∧ (Lit.int .i64 x.2).wf = true) (L := L) (fun row h => by
    obtain ⟨v0, r0, e0, ⟨x, rfl, wx⟩, h1⟩ := (hok row h).cons
    obtain ⟨v1, r1, e1, ⟨y, rfl, wy⟩, h2⟩ := h1.cons
    have e2 := h2.nil
    exact ⟨(x, y), by rw [e0, e1, e2], wx, wy⟩)
  refine ⟨D, by simpa using hL, hD, hle, hcm, hnil, ?_⟩
  cases D with
  | nil => exact .inl rfl
  | cons d D =>
    obtain ⟨b, o, hA, hb, hc⟩ := hr.plain (fun _ => by simp) (i := 0) (d := d) rfl
    refine .inr ⟨b, o, hA, hb, fun j u hu => ?_⟩
    obtain ⟨i, m, hm, ⟨rfl, rfl⟩ | ⟨rfl, rfl⟩⟩ := prs_inv hu
    · exact hc i m hm 0 _ rfl
    · exact hc i m hm 1 _ rfl
end Go.Proofs.Ytninaaolbgchpaa
