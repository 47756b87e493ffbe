/- Slices that are read: their cells, laid flat. -/
import Derived.Test.YtninaaolbgchpaaArg
import Derived.ArgAppend
import Derived.Laws.OwnMore
import Derived.OwnWalk
namespace Go.Proofs.Ytninaaolbgchpaa
open Go.RowKit
set_option linter.unusedVariables false

/-- A slice '.slice A n cap' whose cells read as cs. -/
structure Sl (w : World) (A : Option Addr) (n cap : Nat) (cs : List Value) : Prop where
  le : n ≤ cap
  cm : cap ≤ maxLen
  nil : A = none → n = 0 ∧ cap = 0
  at_ : cs = [] ∨ ∃ b o, A = some ⟨b, o, none⟩ ∧ b < w.heap.size ∧ ∀ j u, cs[j]? = some u → w.cell? ⟨b, o + j, none⟩ = some u
section
variable {w w' : World} {A : Option Addr} {n cap : Nat} {cs : List Value}
theorem Sl.zero (w : World) : Sl w none 0 0 [] := ⟨Nat.le_refl _, Nat.zero_le _, fun _ => ⟨rfl, rfl⟩, .inl rfl⟩
theorem Sl.below (h : Sl w A n cap cs) (hb : Below w.heap.size w w') : Sl w' A n cap cs :=
  ⟨h.le, h.cm, h.nil, h.at_.imp id fun ⟨b, o, hA, hlt, hc⟩ => ⟨b, o, hA, Nat.lt_of_lt_of_le hlt hb.size, fun j u hu => (hb.cell (p := ⟨b, o + j, none⟩) hlt).trans (hc j u hu)⟩⟩
theorem Sl.upd {S : Nat → Prop} (h : Sl w A n cap cs) (hb : Upd S w w') (hn : ∀ b o, A = some ⟨b, o, none⟩ → ¬ S b) : Sl w' A n cap cs :=
  ⟨h.le, h.cm, h.nil, h.at_.imp id fun ⟨b, o, hA, hlt, hc⟩ => ⟨b, o, hA, Nat.lt_of_lt_of_le hlt hb.size, fun j u hu => (hb.cellq (p := ⟨b, o + j, none⟩) hlt (hn b o hA)).trans (hc j u hu)⟩⟩
theorem Sl.upd0 (h : Sl w A n cap cs) (hb : Upd (fun _ => False) w w') : Sl w' A n cap cs := h.upd hb (fun _ _ _ h => h)
theorem Sl.alloc (h : Sl w A n cap cs) (o : Obj) : Sl (w.alloc o) A n cap cs := h.upd0 ((Upd.refl _ _).alloc o)
theorem Sl.drew (h : Sl w A n cap cs) : Sl w.drew A n cap cs := h.upd0 (Upd.refl _ _).drew
theorem Sl.drewN (h : Sl w A n cap cs) (m : Nat) : Sl (w.drewN m) A n cap cs := h.upd0 ((Upd.refl _ _).drewN m)
theorem Sl.far (h : Sl w A n cap cs) {p : Addr} (hp : ∀ b o, A = some ⟨b, o, none⟩ → b ≠ p.block) (u : Value) : Sl (w.setCell p u) A n cap cs :=
  h.upd (S := fun k => k = p.block) (Upd.set (Upd.refl (fun k => k = p.block) w) (p := p) (Or.inl (show p.block = p.block from rfl)) u) hp
/-- A cell of it: where it lies. -/
theorem Sl.get (h : Sl w A n cap cs) {j : Nat} {u : Value} (hj : cs[j]? = some u) : ∃ b o, A = some ⟨b, o, none⟩ ∧ b < w.heap.size ∧ ∀ j u, cs[j]? = some u → w.cell? ⟨b, o + j, none⟩ = some u := by
  rcases h.at_ with rfl | h
  · simp at hj
  · exact h
theorem Sl.holds (h : Sl w A n cap cs) : ∀ b, A = some b → ∀ j u, cs[j]? = some u → w.cell? (b.add j) = some u := fun a ha j u hu => by
  obtain ⟨b, o, hA, _, hc⟩ := h.get hu
  rw [hA] at ha
  injection ha with ha
  subst ha
  have := hc j u hu
  unfold Addr.add
  split
  · rename_i hz
    subst hz
    exact this
  · exact this
/-- A row in a block that is known. -/
theorem Sl.of_blk {g : Nat} {t : TypeId} {a : Array Value} (h : Blk w g t a) (hle : n ≤ cap) (hcm : cap ≤ maxLen) (hl : ∀ (j : Nat) (u : Value), cs[j]? = some u → a[j]? = some u) : Sl w (some ⟨g, 0, none⟩) n cap cs :=
  ⟨hle, hcm, (fun h => by cases h), .inr ⟨g, 0, rfl, h.lt, fun j u hu => by rw [Nat.zero_add, h.cell j]; exact hl j u hu⟩⟩
/-- What the call owns reads so. -/
theorem Sl.of_own {base : Nat} {e : TypeId} {size : Nat} {v : Value} (h : w.ownsRow base e size v n cs) : ∃ A cap, v = .slice A n cap ∧ Sl w A n cap cs ∧ ∀ b o, A = some ⟨b, o, none⟩ → base ≤ b := by
  rcases h.2 with ⟨rfl, rfl⟩ | ⟨g, cap, cur, rfl, hb, hh, h1, h2, h3, h4⟩
  · have : cs = [] := by have := h.1; simpa using this
    subst this
    exact ⟨none, 0, rfl, Sl.zero w, fun b o h => by cases h⟩
  · refine ⟨_, cap, rfl, ⟨?_, ?_, (fun h => by cases h), ?_⟩, fun b o h => by injection h with h; injection h with h; omega⟩
    · exact h1
    · exact h2
    · refine .inr ⟨g, 0, rfl, (Array.getElem?_eq_some_iff.1 hh).1, fun j u hu => ?_⟩
      have := h.cells (g := g) rfl j u hu
      unfold Addr.add at this
      split at this
      · rename_i hz
        subst hz
        exact this
      · exact this
end
/-- Whole numbers, and pairs of them, laid flat. -/
def nums (xs : List Int) : List Value := xs.map fun x => .int .i64 x
def prs (ms : List (Int × Int)) : List Value := ms.flatMap fun m => [.int .i64 m.1, .int .i64 m.2]
theorem nums_len (xs : List Int) : (nums xs).length = xs.length := by simp [nums]
theorem prs_len (ms : List (Int × Int)) : (prs ms).length = ms.length * 2 := by
  induction ms with
  | nil => rfl
  | cons m ms ih => simp [prs] at ih ⊢; omega
theorem nums_app (xs ys : List Int) : nums (xs ++ ys) = nums xs ++ nums ys := by simp [nums]
theorem prs_app (xs ys : List (Int × Int)) : prs (xs ++ ys) = prs xs ++ prs ys := by simp [prs]
theorem nums_get {xs : List Int} {i : Nat} {x : Int} (h : xs[i]? = some x) : (nums xs)[i]? = some (.int .i64 x) := by simp [nums, h]
theorem prs_get : ∀ {ms : List (Int × Int)} {i : Nat} {m : Int × Int}, ms[i]? = some m → (prs ms)[i * 2]? = some (.int .i64 m.1) ∧ (prs ms)[i * 2 + 1]? = some (.int .i64 m.2)
  | [], i, m, h => by simp at h
  | p :: ms, 0, m, h => by
    simp at h
    subst h
    exact ⟨rfl, rfl⟩
  | p :: ms, i + 1, m, h => by
    have h' : ms[i]? = some m := by simpa using h
    have := prs_get h'
    have e : prs (p :: ms) = .int .i64 p.1 :: .int .i64 p.2 :: prs ms := rfl
    rw [e, show (i + 1) * 2 = i * 2 + 1 + 1 by omega]
    exact ⟨by simpa using this.1, by simpa using this.2⟩
theorem Sl.num {w : World} {A : Option Addr} {n cap : Nat} {xs : List Int} (h : Sl w A n cap (nums xs)) {i : Nat} {x : Int} (hx : xs[i]? = some x) : ∃ b o, A = some ⟨b, o, none⟩ ∧ b < w.heap.size ∧ w.cell? ⟨b, o + i, none⟩ = some (.int .i64 x) := by
  obtain ⟨b, o, hA, hlt, hc⟩ := h.get (nums_get hx)
  exact ⟨b, o, hA, hlt, hc i _ (nums_get hx)⟩
theorem Sl.pr {w : World} {A : Option Addr} {n cap : Nat} {ms : List (Int × Int)} (h : Sl w A n cap (prs ms)) {i : Nat} {m : Int × Int} (hx : ms[i]? = some m) : ∃ b o, A = some ⟨b, o, none⟩ ∧ b < w.heap.size ∧ w.cell? ⟨b, o + i * 2, none⟩ = some (.int .i64 m.1) ∧ w.cell? ⟨b, o + i * 2 + 1, none⟩ = some (.int .i64 m.2) := by
  obtain ⟨h0, h1⟩ := prs_get hx
  obtain ⟨b, o, hA, hlt, hc⟩ := h.get h0
  exact ⟨b, o, hA, hlt, hc _ _ h0, hc _ _ h1⟩
theorem grown_none {w w' : World} (h : w.grownBy w' none) : Upd (fun _ => False) w w' := (Upd.of_grown h).mono (fun _ h => by cases h)
/-- The cells of a new block, as an append wants them. -/
theorem Blk.news {w : World} {g : Nat} {t : TypeId} {cs : Array Value} (h : Blk w g t cs) : ∀ j u, cs.toList[j]? = some u → w.cell? ((⟨g, 0, none⟩ : Addr).add j) = some u := fun j u hu => by
  have e : (⟨g, 0, none⟩ : Addr).add j = ⟨g, j, none⟩ := by unfold Addr.add; split <;> simp_all
  rw [e, h.cell j]
  simpa using hu
/-- A slice's block is the old one, or new. -/
def Nw (B : Nat) (A' A : Option Addr) : Prop := ∀ b o, A' = some ⟨b, o, none⟩ → A' = A ∨ B ≤ b
/-- A slice lies apart from block g. -/
def Sep (g : Nat) (A : Option Addr) : Prop := ∀ b o, A = some ⟨b, o, none⟩ → b ≠ g
theorem Nw.refl (B : Nat) (A : Option Addr) : Nw B A A := fun _ _ _ => .inl rfl
theorem Nw.mono {B B' : Nat} {A' A : Option Addr} (h : Nw B A' A) (hB : B' ≤ B) : Nw B' A' A := fun b o e => (h b o e).imp id (Nat.le_trans hB)
theorem Sep.nw {g B : Nat} {A' A : Option Addr} (h : Sep g A) (n : Nw B A' A) (hg : g < B) : Sep g A' := fun b o e => by
  rcases n b o e with rfl | hb
  · exact h b o e
  · omega
theorem Sep.none (g : Nat) : Sep g none := fun _ _ e => by cases e
theorem Sep.of_ge {g B : Nat} {A : Option Addr} (h : ∀ b o, A = some ⟨b, o, Option.none⟩ → B ≤ b) (hg : g < B) : Sep g A := fun b o e => by have := h b o e; omega
theorem Sep.of_lt {g B : Nat} {A : Option Addr} (h : ∀ b o, A = some ⟨b, o, Option.none⟩ → b < B) (hg : B ≤ g) : Sep g A := fun b o e => by have := h b o e; omega
theorem Sl.farS {w : World} {A : Option Addr} {n cap : Nat} {cs : List Value} (h : Sl w A n cap cs) {p : Addr} (hs : Sep p.block A) (u : Value) : Sl (w.setCell p u) A n cap cs := h.far hs u
end Go.Proofs.Ytninaaolbgchpaa
