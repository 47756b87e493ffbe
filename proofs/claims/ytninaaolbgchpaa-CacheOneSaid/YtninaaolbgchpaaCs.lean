/- The cache: what it holds, and in memory. -/
import Derived.Test.YtninaaolbgchpaaCk
import Derived.Test.YtninaaolbgchpaaRg
import Derived.Test.YtninaaolbgchpaaKp
import Derived.Test.YtninaaolbgchpaaAp
import Derived.Deep.RegionHeld3
import Derived.BigQuiet
import Derived.Deep.QuietTactic
import Derived.StillTailTactics
namespace Go.Proofs.Ytninaaolbgchpaa
open Go.RowKit
open Go.Maps (Keyed IsMap Tidy)
set_option linter.unusedVariables false
set_option linter.unusedSimpArgs false

/-- A key, who leads, and what it was told. -/
structure En where
  k : K3
  id : Int
  t : Option K3
abbrev J2 := Int × Int
def entK (E : List En) (k : K3) : Option En := E.find? (fun e => decide (e.k = k))
def askE (E : List En) (k : K3) (id : Int) : List En := if (entK E k).isSome = true then E else E ++ [⟨k, id, none⟩]
def askJ (E : List En) (J : List J2) (k : K3) (id : Int) : List J2 := match entK E k with
  | some ⟨_, l, none⟩ => J ++ [(l, id)]
  | _ => J
def askA (E : List En) (k : K3) : Int := match entK E k with
  | none => 1
  | some ⟨_, _, none⟩ => 2
  | some ⟨_, _, some _⟩ => 3
def askT (E : List En) (k : K3) : K3 := match entK E k with
  | some ⟨_, _, some t⟩ => t
  | _ => (0, 0, 0)
def setE (E : List En) (id : Int) (t : K3) : List En := E.map fun e => if e.id = id then { e with t := some t } else e
def setJ (J : List J2) (id : Int) : List J2 := J.filter (fun p => decide (p.1 ≠ id))
def setL (J : List J2) (id : Int) : List Int := (J.filter (fun p => decide (p.1 = id))).map Prod.snd
def cloE (E : List En) (s : Int) : List En := E.filter (fun e => decide (e.k.1 ≠ s))

/-- An entry's value. -/
def ev (e : En) (p : Option Addr) : Value := .agg #[.int .i64 e.id, .pointer p]
/-- What it was told, where. -/
def Tells (w : World) (base : Nat) (F : Nat → Prop) (t : Option K3) (p : Option Addr) : Prop :=
  match t with
  | none => p = none
  | some t => ∃ b, p = some ⟨b, 0, none⟩ ∧ Blk w b 44 (kcs t) ∧ base ≤ b ∧ ¬ F b
abbrev EP2 := En × Option Addr
def em (EP : List EP2) : List (K3 × Value) := EP.map fun p => (p.1.k, ev p.1 p.2)
def Keys (w : World) (base : Nat) (F : Nat → Prop) (bk N : Nat) (E : List En) : Prop :=
  ∃ n D EP, n ≤ N ∧ Mp w Try.prog 47 bk n D ∧ EP.map Prod.fst = E ∧ Lk kkl kok D (em EP) ∧ ∀ p ∈ EP, Tells w base F p.1.t p.2
/-- Who joined whom: a row for each who leads. -/
structure JRows (w : World) (base : Nat) (F : Nat → Prop) (JL : List (Int × Value)) (J : List J2) : Prop where
  row : ∀ id v, lk JL id = some v → w.ownsRow base 3 1 v (setL J id).length (nums (setL J id)) ∧ ∀ b, v.ownBlock = some b → F b
  no : ∀ id, lk JL id = none → setL J id = []
  ne : ∀ id id' v v' b, lk JL id = some v → lk JL id' = some v' → id ≠ id' → v.ownBlock = some b → v'.ownBlock ≠ some b
def Joins (w : World) (base : Nat) (F : Nat → Prop) (bj N : Nat) (J : List J2) : Prop :=
  ∃ n D JL, n ≤ N ∧ Mp w Try.prog 3 bj n D ∧ Lk ikl iok D JL ∧ JRows w base F JL J
structure CS (w : World) (base g bk bj : Nat) (F : Nat → Prop) (E : List En) (J : List J2) (N : Nat) : Prop where
  blk : Blk w g 61 #[.map (some bk), .map (some bj)]
  gb : base ≤ g
  fk : F bk
  fj : F bj
  fr : ∀ k, F k → base ≤ k ∧ k < w.heap.size
  kj : bk ≠ bj
  gF : ¬ F g
  ids : ∀ e ∈ E, iok e.id
  jn : J.length ≤ N
  keys : Keys w base F bk N E
  joins : Joins w base F bj N J
section
variable {w w' : World} {base g bk bj N : Nat} {F F' S : Nat → Prop} {E : List En} {J : List J2}
theorem Tells.upd {t : Option K3} {p : Option Addr} (h : Tells w base F t p) (hu : Upd S w w') (hS : ∀ k, S k → F k ∨ k < base ∨ w.heap.size ≤ k) (hF : ∀ k, F' k → F k ∨ w.heap.size ≤ k) : Tells w' base F' t p := by
  cases t with
  | none => exact h
  | some t =>
    obtain ⟨b, hp, hb, hge, hn⟩ := h
    have hlt := hb.lt
    exact ⟨b, hp, hb.upd hu (fun hs => by rcases hS b hs with h | h | h <;> first | exact hn h | omega), hge, fun hf => by rcases hF b hf with h | h <;> first | exact hn h | omega⟩
theorem Keys.upd (h : Keys w base F bk N E) (hu : Upd S w w') (hbk : ¬ S bk) (hS : ∀ k, S k → F k ∨ k < base ∨ w.heap.size ≤ k) (hF : ∀ k, F' k → F k ∨ w.heap.size ≤ k) : Keys w' base F' bk N E := by
  obtain ⟨n, D, EP, hn, hm, he, hl, ht⟩ := h
  exact ⟨n, D, EP, hn, hm.upd hu hbk, he, hl, fun p hp => (ht p hp).upd hu hS hF⟩
theorem JRows.upd {JL : List (Int × Value)} (h : JRows w base F JL J) (hu : Upd S w w') (hS : ∀ k, S k → ∀ id v, lk JL id = some v → v.ownBlock ≠ some k) (hF : ∀ k, F k → F' k) : JRows w' base F' JL J :=
  ⟨fun id v hv => ⟨own_upd (h.row id v hv).1 hu (fun b hb hs => hS b hs id v hv hb), fun b hb => hF b ((h.row id v hv).2 b hb)⟩, h.no, h.ne⟩
theorem Joins.upd (h : Joins w base F bj N J) (hu : Upd S w w') (hbj : ¬ S bj) (hS : ∀ k, S k → k < base ∨ w.heap.size ≤ k ∨ k = bk) (hbk : ∀ base' e size n v xs, w.ownsRow base' e size v n xs → v.ownBlock ≠ some bk) (hF : ∀ k, F k → F' k) : Joins w' base F' bj N J := by
  obtain ⟨n, D, JL, hn, hm, hl, hr⟩ := h
  refine ⟨n, D, JL, hn, hm.upd hu hbj, hl, hr.upd hu (fun k hk id v hv hb => ?_) hF⟩
  have ho := (hr.row id v hv).1
  rcases hS k hk with h | h | rfl
  · exact own_ne ho h hb
  · exact own_ltw ho h hb
  · exact hbk _ _ _ _ _ _ ho hb
theorem CS.klt (h : CS w base g bk bj F E J N) : bk < w.heap.size := (h.fr _ h.fk).2
theorem CS.jlt (h : CS w base g bk bj F E J N) : bj < w.heap.size := (h.fr _ h.fj).2
/-- What is written lies below, or is new. -/
theorem CS.later (h : CS w base g bk bj F E J N) (hu : Upd S w w') (hS : ∀ k, S k → k < base ∨ w.heap.size ≤ k) : CS w' base g bk bj F E J N := by
  have hg := h.blk.lt
  have hno : ∀ k, base ≤ k → k < w.heap.size → ¬ S k := fun k h1 h2 hs => by rcases hS k hs with h | h <;> omega
  have hk := h.fr _ h.fk
  have hj := h.fr _ h.fj
  refine ⟨h.blk.upd hu (hno _ h.gb hg), h.gb, h.fk, h.fj, fun k hf => ⟨(h.fr k hf).1, Nat.lt_of_lt_of_le (h.fr k hf).2 hu.size⟩, h.kj, h.gF, h.ids, h.jn, h.keys.upd hu (hno _ hk.1 hk.2) (fun k hk => .inr (hS k hk)) (fun _ hf => .inl hf), ?_⟩
  obtain ⟨n, D, JL, hn, hm, hl, hr⟩ := h.joins
  refine ⟨n, D, JL, hn, hm.upd hu (hno _ hj.1 hj.2), hl, hr.upd hu (fun k hk id v hv hb => ?_) (fun _ hf => hf)⟩
  have ho := (hr.row id v hv).1
  rcases hS k hk with h | h
  · exact own_ne ho h hb
  · exact own_ltw ho h hb
theorem CS.upd0 (h : CS w base g bk bj F E J N) (hu : Upd (fun _ => False) w w') : CS w' base g bk bj F E J N := h.later hu (fun _ h => h.elim)
theorem CS.more {N' : Nat} (h : CS w base g bk bj F E J N) (hN : N ≤ N') : CS w base g bk bj F E J N' := by
  obtain ⟨h1, h2, h3, h4, h5, h6, h7, h8, h9, ⟨n, D, EP, hn, hr⟩, ⟨n', D', JL, hn', hr'⟩⟩ := h
  exact ⟨h1, h2, h3, h4, h5, h6, h7, h8, Nat.le_trans h9 hN, ⟨n, D, EP, Nat.le_trans hn hN, hr⟩, ⟨n', D', JL, Nat.le_trans hn' hN, hr'⟩⟩
theorem CS.len_le (h : CS w base g bk bj F E J N) : E.length ≤ N := by
  obtain ⟨n, D, EP, hn, hm, he, hl, _⟩ := h.keys
  have h1 := World.ownsMap.size_le hm
  rw [hl.size, em, List.length_map] at h1
  rw [← he, List.length_map]
  omega
theorem CS.len (h : CS w base g bk bj F E J N) (ty : TypeId) : (Builtin.len_ #[58] ty #[.map (some bk)]).run Try.prog w = .ok (.int .i64 (E.length : Int)) w := by
  obtain ⟨n, D, EP, hn, hm, he, hl, _⟩ := h.keys
  have h1 := World.ownsMap.len hm Try.underlying58 ty
  rw [hl.size, em, List.length_map] at h1
  rw [← he, List.length_map]
  exact h1
/-- What is looked up. -/
theorem lk_em {EP : List EP2} {k : K3} : lk (em EP) k = (EP.find? (fun p => decide (p.1.k = k))).map fun p => ev p.1 p.2 := by
  induction EP with
  | nil => rfl
  | cons p l ih =>
    unfold lk em at ih ⊢
    by_cases hp : p.1.k = k
    · rw [List.map_cons, List.find?_cons_of_pos (by simp [hp]), List.find?_cons_of_pos (by simp [hp])]
      rfl
    · rw [List.map_cons, List.find?_cons_of_neg (by simp [hp]), List.find?_cons_of_neg (by simp [hp])]
      exact ih
theorem entK_em {EP : List EP2} {k : K3} : entK (EP.map Prod.fst) k = (EP.find? (fun p => decide (p.1.k = k))).map Prod.fst := by
  unfold entK
  rw [List.find?_map]
  rfl
theorem Mp.ne_own' {P : Program} {k : TypeId} {b n : Nat} {D : DataW Value} (h : Mp w P k b n D) : ∀ base' e size n v xs, w.ownsRow base' e size v n xs → v.ownBlock ≠ some b := fun _ _ _ _ _ _ ho => h.ne_own ho
end
end Go.Proofs.Ytninaaolbgchpaa
