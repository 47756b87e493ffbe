/- A batch that came in, as it reads. -/
import Derived.Test.YtdfnhbhcgkdplaaSa
import Derived.Test.YtdfnhbhcgkdplaaArg
import Derived.KernelRfl
import Derived.Test.YtdfnhbhcgkdplaaProg
namespace Go.Proofs.Ytdfnhbhcgkdplaa
open Go.RowKit Go.ChangeShapes Go.WideShapes Go.Deep
set_option linter.unusedVariables false
set_option linter.unusedSimpArgs false

section
variable {H : Type} {enc : TypeId × Value → H} {P : Program} {w : World} {base : Nat} {spare : Nat → Bool} {held : Bool}
/-- The fields of a struct that is read. -/
theorem fields_of {t : TypeId} {fs : Array Field} {fuel : Nat} {cs : List Value} {x : DataW H × List MemPlace} (hk : P.underlying t = some (.struct fs)) (hx : DataW.trod enc P w base spare held fuel t cs = some x) :
    ∀ (j : Nat) (o k : Nat) (ft : TypeId), (fs[j]?.map fun f => (f.offset, P.cellsOf f.type, f.type)) = some (o, k, ft) → ∃ m y, DataW.trod enc P w base spare held m ft ((cs.drop o).take k) = some y := by
  obtain ⟨xs, m, rfl, _, hlen, hxl, hf⟩ := DataW.trod_struct hk hx
  intro j o k ft hj
  obtain ⟨f, hfj, e⟩ := Option.map_eq_some_iff.1 hj
  simp only [Prod.mk.injEq] at e
  obtain ⟨rfl, rfl, rfl⟩ := e
  refine ⟨m, xs[j]'(by rw [hxl]; have := (Array.getElem?_eq_some_iff.1 hfj).1; simpa using this), ?_⟩
  rw [hf j f hfj]
  exact List.getElem?_eq_getElem _
theorem len1 {t : TypeId} {e : TypeId} {fuel : Nat} {cs : List Value} {x : DataW H × List MemPlace} {l : List Lf} {n : Nat} (hk : P.underlying t = some (.slice e)) (hl : flat P n e = some l) (hz : P.cellsOf e = l.length) (hx : DataW.trod enc P w 0 (fun _ => true) held fuel t cs = some x) : ∃ v, cs = [v] := by
  obtain ⟨A, len, cap, L, h, _⟩ := open_flats hk hl hz hx
  exact ⟨_, h⟩
end
/-- A batch's cells, of n arguments and m members. -/
structure IsBatch (w : World) (A : Option Addr) (n c : Nat) (M : Option Addr) (m d : Nat) (xs : List Int) (ms : List (Int × Int)) : Prop where
  hn : xs.length = n
  hm : ms.length = m
  ha : Sl w A n c (nums xs)
  hs : Sl w M m d (prs ms)
  bn : n ≤ 9223372036854775807
  bm : m ≤ 9223372036854775807
theorem batch_of {H : Type} {enc : TypeId × Value → H} {held : Bool} {w : World} {fuel : Nat} {cs : List Value} {x : DataW H × List MemPlace} (hx : DataW.trod enc Try.prog w 0 (fun _ => true) held fuel 25 cs = some x) (hc : cs.length = 2) :
    ∃ A n c M m d xs ms, cs = [.slice A n c, .slice M m d] ∧ IsBatch w A n c M m d xs ms := by
  obtain ⟨k0, y0, h0⟩ := fields_of Try.underlying25 hx 0 0 1 22 (by kernel_rfl)
  obtain ⟨k1, y1, h1⟩ := fields_of Try.underlying25 hx 1 1 1 23 (by kernel_rfl)
  match cs, hc with
  | [a, b], _ =>
    simp at h0 h1
    obtain ⟨A, n, c, L, e, hL, hle, hcm, hnil, hok, hr⟩ := open_flats (n := 8) (l := [.int .i64]) Try.underlying22 (by kernel_rfl) (by kernel_rfl) h0
    obtain ⟨M, m, d, L', e', hL', hle', hcm', hnil', hok', hr'⟩ := open_flats (n := 8) (l := [.int .i64, .int .i64]) Try.underlying23 (by kernel_rfl) (by kernel_rfl) h1
    obtain ⟨xs, hx1, _, hx2⟩ := sl_nums hL hle hcm hnil hok hr
    obtain ⟨ms, hm1, _, hm2⟩ := sl_prs hL' hle' hcm' hnil' hok' hr'
    simp at e e'
    subst e e'
    unfold maxLen at hcm hcm'
    exact ⟨A, n, c, M, m, d, xs, ms, rfl, hx1, hm1, hx2, hm2, by omega, by omega⟩
theorem batch_arg {H : Type} {enc : TypeId × Value → H} {held : Bool} {w : World} {v : Value} {d : DataW H} {p : List MemPlace} (hv : ∃ cs, v = .agg cs ∧ cs.size = Try.prog.cellsOf 25) (h : DataW.Trod enc Try.prog w 0 (fun _ => true) held 25 v d p) :
    ∃ A n c M m d xs ms, v = .agg #[.slice A n c, .slice M m d] ∧ IsBatch w A n c M m d xs ms := by
  obtain ⟨⟨cs⟩, rfl, hsz⟩ := hv
  obtain ⟨fuel, hf⟩ := h
  have e2 : Try.prog.cellsOf 25 = 2 := by kernel_rfl
  rw [e2] at hsz
  obtain ⟨A, n, c, M, m, d, xs, ms, e, hb⟩ := batch_of hf (by simpa [Value.cells] using hsz)
  simp [Value.cells] at e
  subst e
  exact ⟨A, n, c, M, m, d, xs, ms, rfl, hb⟩
end Go.Proofs.Ytdfnhbhcgkdplaa
