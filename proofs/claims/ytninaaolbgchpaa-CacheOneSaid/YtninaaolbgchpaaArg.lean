/- Arguments that are plain data, opened: whole numbers and bools, structs and arrays of them, slices of such. -/
import Derived.Test.YtninaaolbgchpaaX
import Derived.ChangeShapes
import Derived.ChangeArms
import Derived.OpenShut
import Derived.Deep.Slices
import Derived.WideShapes
import Derived.ProofKit
namespace Go.Proofs.Ytninaaolbgchpaa
open Go.RowKit Go.ChangeShapes Go.WideShapes Go.Deep

/-- A leaf of plain data. -/
inductive Lf where
  | int (k : IntKind)
  | bool
def Lf.ok : Lf → Value → Prop
  | .int k, v => ∃ a : Int, v = .int k a ∧ (Lit.int k a).wf = true
  | .bool, v => ∃ b : Bool, v = .bool b
def Oks : List Lf → List Value → Prop
  | [], [] => True
  | l :: ls, v :: vs => l.ok v ∧ Oks ls vs
  | _, _ => False
theorem Oks.length : ∀ {ls : List Lf} {vs : List Value}, Oks ls vs → vs.length = ls.length
  | [], [], _ => rfl
  | _ :: _, _ :: _, h => by simp [Oks.length h.2]
  | [], _ :: _, h => h.elim
  | _ :: _, [], h => h.elim
theorem Oks.append : ∀ {l1 l2 : List Lf} {v1 v2 : List Value}, Oks l1 v1 → Oks l2 v2 → Oks (l1 ++ l2) (v1 ++ v2)
  | [], _, [], _, _, h => h
  | _ :: _, _, _ :: _, _, h1, h2 => ⟨h1.1, Oks.append h1.2 h2⟩
  | [], _, _ :: _, _, h, _ => h.elim
  | _ :: _, _, [], _, h, _ => h.elim

def flatFs (P : Program) (g : TypeId → Option (List Lf)) : Nat → List Field → Option (List Lf)
  | _, [] => some []
  | off, f :: r => match g f.type with
    | some l => if f.offset = off ∧ P.cellsOf f.type = l.length then (flatFs P g (off + l.length) r).map (l ++ ·) else none
    | none => none
def flat (P : Program) : Nat → TypeId → Option (List Lf)
  | 0, _ => none
  | n + 1, t => match P.underlying t with
    | some (.int k) => some [.int k]
    | some .bool => some [.bool]
    | some (.struct fs) => match flatFs P (flat P n) 0 fs.toList with
      | some l => if P.cellsOf t = l.length then some l else none
      | none => none
    | some (.array m e) => match flat P n e with
      | some l => if P.cellsOf e = l.length ∧ P.cellsOf t = m * l.length then some (List.replicate m l).flatten else none
      | none => none
    | _ => none

section
variable {H : Type} {enc : TypeId × Value → H} {P : Program} {w : World} {base : Nat} {spare : Nat → Bool} {held : Bool}
theorem flatFs_ok {g : TypeId → Option (List Lf)} {n : Nat} (hg : ∀ t l cs x, g t = some l → DataW.trod enc P w base spare held n t cs = some x → Oks l cs) {cs : List Value} :
    ∀ (fs : List Field) (off : Nat) (l : List Lf), flatFs P g off fs = some l → (∀ f ∈ fs, ∃ y, DataW.trod enc P w base spare held n f.type ((cs.drop f.offset).take (P.cellsOf f.type)) = some y) → Oks l ((cs.drop off).take l.length)
  | [], off, l, h, _ => by
    simp only [flatFs, Option.some.injEq] at h
    subst h
    simp [Oks]
  | f :: r, off, l, h, hy => by
    simp only [flatFs] at h
    cases hgf : g f.type with
    | none => rw [hgf] at h; cases h
    | some lf =>
      rw [hgf] at h
      simp only at h
      split at h
      · rename_i hc
        obtain ⟨l2, hl2, rfl⟩ := Option.map_eq_some_iff.1 h
        obtain ⟨y, hyy⟩ := hy f (List.mem_cons_self ..)
        have h1 := hg _ _ _ _ hgf hyy
        rw [hc.1, hc.2] at h1
        have h2 := flatFs_ok hg r _ _ hl2 (fun f' hf' => hy f' (List.mem_cons_of_mem _ hf'))
        have h3 := Oks.append h1 h2
        rw [List.length_append, List.take_add, List.drop_drop]
        exact h3
      · cases h
theorem arr_ok {n : Nat} {l : List Lf} {e : TypeId} (he : P.cellsOf e = l.length) (hg : ∀ cs x, DataW.trod enc P w base spare held n e cs = some x → Oks l cs) {cs : List Value} :
    ∀ (m i : Nat), (∀ j, i ≤ j → j < i + m → ∃ y, DataW.trod enc P w base spare held n e ((cs.drop (j * P.cellsOf e)).take (P.cellsOf e)) = some y) → Oks (List.replicate m l).flatten ((cs.drop (i * l.length)).take (m * l.length))
  | 0, i, _ => by simp [Oks]
  | m + 1, i, hy => by
    obtain ⟨y, hyy⟩ := hy i (Nat.le_refl _) (by omega)
    have h1 := hg _ _ hyy
    rw [he] at h1
    have h2 := arr_ok he hg m (i + 1) (fun j h1 h2 => hy j (by omega) (by omega))
    have h3 := Oks.append h1 h2
    rw [show (m + 1) * l.length = l.length + m * l.length by rw [Nat.add_mul]; omega, List.take_add, List.drop_drop, show i * l.length + l.length = (i + 1) * l.length by rw [Nat.add_mul]; omega]
    simpa [List.replicate_succ] using h3
/-- Plain data that is read: its cells. -/
theorem flat_ok : ∀ (n : Nat) (fuel : Nat) (t : TypeId) (l : List Lf) (cs : List Value) (x : DataW H × List MemPlace), flat P n t = some l → DataW.trod enc P w base spare held fuel t cs = some x → Oks l cs := by
  intro n
  induction n with
  | zero => intro _ t l cs x h; simp [flat] at h
  | succ n ih =>
    intro fuel t l cs x h hx
    simp only [flat] at h
    split at h
    · rename_i k hk
      simp only [Option.some.injEq] at h
      subst h
      obtain ⟨a, rfl, _, hw⟩ := DataW.trod_int hk hx
      exact ⟨⟨a, rfl, hw⟩, trivial⟩
    · rename_i hk
      simp only [Option.some.injEq] at h
      subst h
      obtain ⟨b, rfl, _⟩ := DataW.trod_bool hk hx
      exact ⟨⟨b, rfl⟩, trivial⟩
    · rename_i fs hk
      split at h
      · rename_i l' hl'
        split at h
        · rename_i hc
          simp only [Option.some.injEq] at h
          subst h
          obtain ⟨xs, m, rfl, _, hlen, hxl, hf⟩ := DataW.trod_struct hk hx
          have h1 := flatFs_ok (enc := enc) (w := w) (base := base) (spare := spare) (held := held) (n := m) (cs := cs) (fun t l cs x h1 h2 => ih m t l cs x h1 h2) fs.toList 0 l' hl' (fun f hf' => by
            obtain ⟨j, hj, hjf⟩ := List.getElem_of_mem hf'
            have hj' : fs[j]? = some f := by
              rw [← hjf]
              simp at hj ⊢
            rw [hf j f hj']
            have : j < xs.length := by rw [hxl]; simpa using hj
            exact ⟨_, List.getElem?_eq_getElem this⟩)
          rw [List.drop_zero, List.take_of_length_le (by omega)] at h1
          exact h1
        · cases h
      · cases h
    · rename_i m e hk
      split at h
      · rename_i l' hl'
        split at h
        · rename_i hc
          simp only [Option.some.injEq] at h
          subst h
          obtain ⟨xs, k, rfl, _, hlen, hxl, hf⟩ := DataW.trod_array hk hx
          have h1 := arr_ok (enc := enc) (w := w) (base := base) (spare := spare) (held := held) (n := k) (cs := cs) hc.1 (fun cs x h2 => ih k e l' cs x hl' h2) m 0 (fun j _ hj => by
            rw [hf j (by omega)]
            exact ⟨_, List.getElem?_eq_getElem (show j < xs.length by omega)⟩)
          rw [Nat.zero_mul, List.drop_zero, List.take_of_length_le (by omega)] at h1
          exact h1
        · cases h
      · cases h
    · cases h
/-- A struct, or an array, of plain data, by value. -/
theorem open_flat {n : Nat} {t : TypeId} {l : List Lf} {v : Value} {d : DataW H} {p : List MemPlace} (hv : ∃ cs, v = .agg cs ∧ cs.size = P.cellsOf t) (hl : flat P n t = some l) (h : DataW.Trod enc P w base spare held t v d p) :
    ∃ vs, v = .agg vs ∧ Oks l vs.toList := by
  obtain ⟨cs, rfl, _⟩ := hv
  obtain ⟨fuel, hf⟩ := h
  exact ⟨cs, rfl, flat_ok n fuel t l _ _ hl hf⟩
/-- Rows of a slice of plain data. -/
def Rows (w : World) (A : Option Addr) (sz : Nat) (L : List (List Value)) : Prop :=
  ∀ i row, L[i]? = some row → ∃ a, A = some a ∧ ∀ j v, row[j]? = some v → w.cell? (a.add (i * sz + j)) = some v
/-- A slice of plain data. -/
theorem open_flats {n fuel : Nat} {t e : TypeId} {l : List Lf} {cs : List Value} {x : DataW H × List MemPlace} (ht : P.underlying t = some (.slice e)) (hl : flat P n e = some l) (hz : P.cellsOf e = l.length) (h : DataW.trod enc P w 0 (fun _ => true) held fuel t cs = some x) :
    ∃ A len cap L, cs = [.slice A len cap] ∧ L.length = len ∧ len ≤ cap ∧ cap ≤ maxLen ∧ (A = none → len = 0 ∧ cap = 0) ∧ (∀ row ∈ L, Oks l row) ∧ Go.Proofs.Ytninaaolbgchpaa.Rows w A l.length L := by
  rcases open_slice ht h with ⟨rfl, _⟩ | ⟨a, len, cap, m, k, D, Pl, rfl, _, hlc, hm, hmm, _, hi⟩
  · exact ⟨none, 0, 0, [], rfl, rfl, Nat.le_refl _, Nat.zero_le _, fun _ => ⟨rfl, rfl⟩, by simp, fun i row h => by simp at h⟩
  · simp only [if_true] at hmm
    subst hmm
    obtain ⟨g, hg⟩ := choose_lt (n := len) (p := fun i cs' => w.cells? 0 (a.add (i * P.cellsOf e)) (P.cellsOf e) = some cs' ∧ Oks l cs') (fun i hil => by
      obtain ⟨cs', h1, h2⟩ := hi i (by omega)
      exact ⟨cs', h1, flat_ok n k e l _ _ hl h2⟩)
    refine ⟨some a, len, m, (List.range len).map g, rfl, by simp, hlc, hm, (fun h => by cases h), ?_, ?_⟩
    · intro row hrow
      obtain ⟨i, hi', rfl⟩ := List.mem_map.1 hrow
      exact (hg i (List.mem_range.1 hi')).2
    · intro i row hrow
      have hil : i < len := by
        have := (List.getElem?_eq_some_iff.1 hrow).1
        simpa using this
      have e1 : row = g i := by
        rw [List.getElem?_map, List.getElem?_range hil] at hrow
        simpa using hrow.symm
      subst e1
      refine ⟨a, rfl, fun j v hj => ?_⟩
      obtain ⟨_, hlen, hc⟩ := World.cells?_some (hg i hil).1
      have hjl : j < P.cellsOf e := by
        have := (List.getElem?_eq_some_iff.1 hj).1
        omega
      have h2 := hc j hjl
      rw [add_add, hz, hj] at h2
      exact h2
/-- The same of an argument. -/
theorem open_flats' {r : Reach} {b0 n : Nat} {t e : TypeId} {l : List Lf} {v : Value} {d : DataW H} {p : List MemPlace} (ht : P.underlying t = some (.slice e)) (hv : Value.okWide P w r b0 t v) (hl : flat P n e = some l) (hz : P.cellsOf e = l.length) (h : DataW.Trod enc P w 0 (fun _ => true) held t v d p) :
    ∃ A len cap L, v = .slice A len cap ∧ L.length = len ∧ len ≤ cap ∧ cap ≤ maxLen ∧ (A = none → len = 0 ∧ cap = 0) ∧ (∀ row ∈ L, Oks l row) ∧ Go.Proofs.Ytninaaolbgchpaa.Rows w A l.length L := by
  obtain ⟨a, len, cap, rfl⟩ := okWide_slice ht hv
  obtain ⟨fuel, hf⟩ := h
  obtain ⟨A, len', cap', L, hcs, h1⟩ := open_flats ht hl hz hf
  simp [Value.cells] at hcs
  obtain ⟨rfl, rfl, rfl⟩ := hcs
  exact ⟨_, _, _, L, rfl, h1⟩
theorem open_lf {r : Reach} {b0 : Nat} {t : TypeId} {k : IntKind} {v : Value} {d : DataW H} {p : List MemPlace} (ht : P.underlying t = some (.int k)) (hv : Value.okWide P w r b0 t v) (h : DataW.Trod enc P w base spare held t v d p) : ∃ a, v = .int k a ∧ (Lit.int k a).wf = true := by
  obtain ⟨a, e, _, _, hw⟩ := open_int ht hv h
  exact ⟨a, e, hw⟩
theorem open_lb {r : Reach} {b0 : Nat} {t : TypeId} {v : Value} {d : DataW H} {p : List MemPlace} (ht : P.underlying t = some .bool) (hv : Value.okWide P w r b0 t v) (h : DataW.Trod enc P w base spare held t v d p) : ∃ b, v = .bool b := by
  obtain ⟨b, e, _⟩ := open_bool ht hv h
  exact ⟨b, e⟩
theorem lt_of_trod {t : TypeId} {v : Value} {d : DataW H} {p : List MemPlace} (h : DataW.Trod enc P w base spare held t v d p) : ∀ x ∈ p, x.block < w.heap.size := by
  obtain ⟨m, hm⟩ := h
  exact DataW.trod_lt m _ _ _ hm
theorem okWide_arr {r : Reach} {b0 n : Nat} {t e : TypeId} {v : Value} (ht : P.underlying t = some (.array n e)) (h : Value.okWide P w r b0 t v) : ∃ cs, v = .agg cs ∧ cs.size = P.cellsOf t := by
  simp only [Value.okWide, ht] at h
  obtain ⟨cs, h1, h2, _⟩ := h
  exact ⟨cs, h1, h2⟩
end
theorem Oks.cons {l : Lf} {ls : List Lf} {vs : List Value} (h : Oks (l :: ls) vs) : ∃ v r, vs = v :: r ∧ l.ok v ∧ Oks ls r := by
  cases vs with
  | nil => exact h.elim
  | cons v r => exact ⟨v, r, rfl, h.1, h.2⟩
theorem Oks.nil {vs : List Value} (h : Oks [] vs) : vs = [] := by
  cases vs with
  | nil => rfl
  | cons v r => exact h.elim
/-- Rows as plain data. -/
theorem decode_rows {α : Type} {enc : α → List Value} {P : α → Prop} : ∀ {L : List (List Value)}, (∀ row ∈ L, ∃ a, row = enc a ∧ P a) → ∃ D : List α, L = D.map enc ∧ ∀ a ∈ D, P a
  | [], _ => ⟨[], rfl, by simp⟩
  | row :: L, h => by
    obtain ⟨a, rfl, ha⟩ := h row (List.mem_cons_self ..)
    obtain ⟨D, rfl, hD⟩ := decode_rows (fun r hr => h r (List.mem_cons_of_mem _ hr))
    exact ⟨a :: D, rfl, fun b hb => (List.mem_cons.1 hb).elim (fun e => e ▸ ha) (fun h => hD b h)⟩
theorem spot_of_cell {w : World} {a : Addr} {v : Value} (h : w.cell? a = some v) : a.spot = none := by
  unfold World.cell? at h
  split at h
  · split at h
    · cases h
    · rename_i hs
      simpa using hs
  · cases h
/-- The rows lie one behind the other in one block. -/
theorem Rows.plain {α : Type} {enc : α → List Value} {w : World} {A : Option Addr} {sz : Nat} {D : List α} (h : Rows w A sz (D.map enc)) (hsz : ∀ a, 0 < (enc a).length) {i : Nat} {d : α} (hd : D[i]? = some d) :
    ∃ b o, A = some ⟨b, o, none⟩ ∧ b < w.heap.size ∧ ∀ i d, D[i]? = some d → ∀ j v, (enc d)[j]? = some v → w.cell? ⟨b, o + (i * sz + j), none⟩ = some v := by
  have hlen : 0 < D.length := by
    have := (List.getElem?_eq_some_iff.1 hd).1
    omega
  have h0 : D[0]? = some D[0] := List.getElem?_eq_getElem hlen
  obtain ⟨a, rfl, ha⟩ := h 0 (enc D[0]) (by rw [List.getElem?_map, h0]; rfl)
  have hv0 : (enc D[0])[0]? = some ((enc D[0])[0]'(hsz _)) := List.getElem?_eq_getElem (hsz _)
  have hc := ha 0 _ hv0
  have e0 : a.add (0 * sz + 0) = a := by simp [Addr.add]
  rw [e0] at hc
  have hs := spot_of_cell hc
  obtain ⟨b, o, s⟩ := a
  simp only at hs
  subst hs
  refine ⟨b, o, rfl, World.block_lt_of_cell? _ _ hc, fun i d hd j v hv => ?_⟩
  obtain ⟨a', e, hr⟩ := h i (enc d) (by rw [List.getElem?_map, hd]; rfl)
  injection e with e
  subst e
  have := hr j v hv
  unfold Addr.add at this
  split at this
  · rename_i hz
    rw [hz]
    exact this
  · exact this
/-- A slice of whole numbers. -/
def IRows (w : World) (k : IntKind) (A : Option Addr) (T : List Int) : Prop :=
  ∀ i x, T[i]? = some x → ∃ b o, A = some ⟨b, o, none⟩ ∧ b < w.heap.size ∧ w.cell? ⟨b, o + i, none⟩ = some (.int k x)
theorem ints_of {w : World} {k : IntKind} {A : Option Addr} {len : Nat} {L : List (List Value)} (hL : L.length = len) (hok : ∀ row ∈ L, Oks [.int k] row) (hr : Rows w A 1 L) :
    ∃ T : List Int, T.length = len ∧ (∀ x ∈ T, (Lit.int k x).wf = true) ∧ IRows w k A T := by
  obtain ⟨D, rfl, hD⟩ := decode_rows (enc := fun x => [Value.int k x]) (P := fun x => (Lit.int k x).wf = true) (L := L) (fun row h => by
    obtain ⟨v0, r0, e0, ⟨x, rfl, wx⟩, h1⟩ := (hok row h).cons
    have e1 := h1.nil
    exact ⟨x, by rw [e0, e1], wx⟩)
  refine ⟨D, by simpa using hL, hD, fun i d hd => ?_⟩
  obtain ⟨b, o, hA, hb, hc⟩ := hr.plain (fun _ => by simp) hd
  refine ⟨b, o, hA, hb, ?_⟩
  have := hc i d hd 0 _ rfl
  rwa [Nat.mul_one, Nat.add_zero] at this
end Go.Proofs.Ytninaaolbgchpaa
