/- Rows of the call's own, worlds under a new name, flat rows of structs: words of the session's own. -/
import Derived.Test.YtninaaolbgchpaaSl
import Derived.Test.YtninaaolbgchpaaSa
import Derived.Deep.AppendLies
import Derived.Lib.Hide
namespace Go.Proofs.Ytninaaolbgchpaa
open Go.RowKit
set_option linter.unusedVariables false
set_option linter.unusedSimpArgs false

/-! ### a world under a new name -/
theorem Calls.gen {P : Program} {f : FuncId} {args : Array Value} {w : World} {R : Ending → World → Prop} (F : World → Prop) (h : F w) (k : ∀ W, F W → Calls P f args W R) : Calls P f args w R := k w h
theorem Code.gen {P : Program} {c : Code} {Q : Exit → Act → World → Prop} {a : Act} {w : World} (F : World → Prop) (h : F w) (k : ∀ W, F W → c.wp P Q a W) : c.wp P Q a w := k w h
theorem wpList_gen {P : Program} {ops : Array Oper} {Q : Exit → Act → World → Prop} {l : List Oper} {a : Act} {w : World} (F : World → Prop) (h : F w) (k : ∀ W, F W → wpList P ops Q l a W) : wpList P ops Q l a w := k w h

/-! ### rows of the call's own -/
theorem own_ne {w : World} {base : Nat} {e : TypeId} {size n : Nat} {v : Value} {xs : List Value} (h : w.ownsRow base e size v n xs) {b : Nat} (hb : b < base) : v.ownBlock ≠ some b := by
  rcases h.2 with ⟨rfl, _⟩ | ⟨g, cap, cur, rfl, hg, _⟩
  · simp [Value.ownBlock]
  · intro he
    have : g = b := by simpa [Value.ownBlock] using he
    omega
theorem own_ge {w : World} {base : Nat} {e : TypeId} {size n : Nat} {v : Value} {xs : List Value} (h : w.ownsRow base e size v n xs) {b : Nat} (hb : v.ownBlock = some b) : base ≤ b := by
  rcases Nat.lt_or_ge b base with hlt | hge
  · exact absurd hb (own_ne h hlt)
  · exact hge
theorem own_ltw {w : World} {base : Nat} {e : TypeId} {size n : Nat} {v : Value} {xs : List Value} (h : w.ownsRow base e size v n xs) {b : Nat} (hb : w.heap.size ≤ b) : v.ownBlock ≠ some b := by
  rcases h.2 with ⟨rfl, _⟩ | ⟨g, cap, cur, rfl, hg, hh, _⟩
  · simp [Value.ownBlock]
  · intro he
    have : g = b := by simpa [Value.ownBlock] using he
    have := (Array.getElem?_eq_some_iff.1 hh).1
    omega
theorem own_lt {w : World} {base : Nat} {e : TypeId} {size n : Nat} {v : Value} {xs : List Value} (h : w.ownsRow base e size v n xs) {b : Nat} (hb : v.ownBlock = some b) : b < w.heap.size := by
  rcases Nat.lt_or_ge b w.heap.size with hlt | hge
  · exact hlt
  · exact absurd hb (own_ltw h hge)
theorem own_nil (w : World) (base : Nat) (e : TypeId) (size : Nat) : w.ownsRow base e size (.slice none 0 0) 0 [] := ⟨by simp, .inl ⟨rfl, rfl⟩⟩
theorem own_upd {S : Nat → Prop} {w w' : World} {base : Nat} {e : TypeId} {size n : Nat} {v : Value} {xs : List Value} (h : w.ownsRow base e size v n xs) (hu : Upd S w w') (hn : ∀ b, v.ownBlock = some b → ¬ S b) : w'.ownsRow base e size v n xs := by
  obtain ⟨h1, h2⟩ := h
  refine ⟨h1, ?_⟩
  rcases h2 with h2 | ⟨g, cap, cur, rfl, hg, hh, r⟩
  · exact .inl h2
  · refine .inr ⟨g, cap, cur, rfl, hg, ?_, r⟩
    rw [hu.block g (Array.getElem?_eq_some_iff.1 hh).1 (hn g rfl)]
    exact hh
theorem own_upd0 {w w' : World} {base : Nat} {e : TypeId} {size n : Nat} {v : Value} {xs : List Value} (h : w.ownsRow base e size v n xs) (hu : Upd (fun _ => False) w w') : w'.ownsRow base e size v n xs := own_upd h hu (fun _ _ h => h)
theorem own_alloc {w : World} {base : Nat} {e : TypeId} {size n : Nat} {v : Value} {xs : List Value} (h : w.ownsRow base e size v n xs) (o : Obj) : (w.alloc o).ownsRow base e size v n xs := own_upd0 h ((Upd.refl _ _).alloc o)
theorem own_drew {w : World} {base : Nat} {e : TypeId} {size n : Nat} {v : Value} {xs : List Value} (h : w.ownsRow base e size v n xs) : w.drew.ownsRow base e size v n xs := own_upd0 h (Upd.refl _ _).drew
theorem own_drewN {w : World} {base : Nat} {e : TypeId} {size n : Nat} {v : Value} {xs : List Value} (h : w.ownsRow base e size v n xs) (m : Nat) : (w.drewN m).ownsRow base e size v n xs := own_upd0 h ((Upd.refl _ _).drewN m)
theorem own_far {w : World} {base : Nat} {e : TypeId} {size n : Nat} {v : Value} {xs : List Value} (h : w.ownsRow base e size v n xs) {p : Addr} (hn : v.ownBlock ≠ some p.block) (u : Value) : (w.setCell p u).ownsRow base e size v n xs :=
  own_upd h ((Upd.refl (fun k => k = p.block) w).set (p := p) (.inl rfl) u) (fun b hb he => hn (by rw [hb, he]))
/-- A row, and a block of another type, lie apart. -/
theorem own_sep {w : World} {base : Nat} {e t : TypeId} {size n g : Nat} {v : Value} {xs : List Value} {cs : Array Value} (h : w.ownsRow base e size v n xs) (hb : Blk w g t cs) (hne : e ≠ t) : v.ownBlock ≠ some g := by
  rcases h.2 with ⟨rfl, _⟩ | ⟨g', cap, cur, rfl, _, hh, _⟩
  · simp [Value.ownBlock]
  · intro he
    have he : g' = g := by simpa [Value.ownBlock] using he
    subst he
    unfold Blk at hb
    rw [hb] at hh
    injection hh with hh
    injection hh with h1 h2
    exact hne h2.symm
theorem own_apart {w : World} {b1 b2 : Nat} {e1 e2 : TypeId} {s1 s2 n1 n2 : Nat} {v1 v2 : Value} {x1 x2 : List Value} (h1 : w.ownsRow b1 e1 s1 v1 n1 x1) (h2 : w.ownsRow b2 e2 s2 v2 n2 x2) (hne : e1 ≠ e2) : ∀ b, v1.ownBlock = some b → ¬ v2.ownBlock = some b := by
  intro b hb
  rcases h1.2 with ⟨rfl, _⟩ | ⟨g', cap, cur, rfl, _, hh, _⟩
  · simp [Value.ownBlock] at hb
  · have he : g' = b := by simpa [Value.ownBlock] using hb
    subst he
    exact own_sep h2 hh (Ne.symm hne)
/-- A new block, wholly filled, is a row of one's own. -/
theorem own_blk {w : World} {g : Nat} {t : TypeId} {cs : Array Value} {base size n : Nat} (h : Blk w g t cs) (hg : base ≤ g) (hn : cs.size = n * size) (hm : n ≤ maxLen) : w.ownsRow base t size (.slice (some ⟨g, 0, none⟩) n n) n cs.toList :=
  ⟨by simpa using hn, .inr ⟨g, n, cs, rfl, hg, h, Nat.le_refl _, hm, hn, by rw [← Array.length_toList.trans hn, List.take_length]⟩⟩
theorem own_empty {w : World} {g : Nat} {t : TypeId} {base size : Nat} (h : Blk w g t #[]) (hg : base ≤ g) : w.ownsRow base t size (.slice (some ⟨g, 0, none⟩) 0 0) 0 [] :=
  ⟨by simp, .inr ⟨g, 0, #[], rfl, hg, h, Nat.le_refl _, by simp [maxLen], by simp, by simp⟩⟩
theorem Blk.newN {w : World} {k : Nat} (cs : Array Value) {t : TypeId} (h : w.heap.size = k) : Blk (w.alloc (.cells cs t)) k t cs := h ▸ Blk.new w cs t
theorem Sl.lt {w : World} {A : Option Addr} {n cap : Nat} {cs : List Value} (h : Sl w A n cap cs) (hne : 0 < cs.length) {b o : Nat} (hA : A = some ⟨b, o, none⟩) : b < w.heap.size := by
  rcases h.at_ with rfl | ⟨b', o', hA', hlt, _⟩
  · simp at hne
  · rw [hA] at hA'
    injection hA' with hA'
    injection hA' with e1 e2
    omega
theorem held_alloc {w : World} {a : Addr} {v : Value} (h : w.cell? a = some v) (o : Obj) : (w.alloc o).cell? a = some v := (World.cell?_alloc_lt _ _ _ (World.block_lt_of_cell? _ _ h)).trans h
theorem take_snoc {α : Type} {l : List α} {k : Nat} {x : α} (h : l[k]? = some x) : l.take (k + 1) = l.take k ++ [x] := by
  rw [List.take_add_one, h]
  rfl

/-! ### flat rows of structs -/
/-- Rows, one behind the other. -/
def fl {α : Type} (enc : α → List Value) (l : List α) : List Value := l.flatMap enc
section
variable {α : Type} {enc : α → List Value} {sz : Nat}
theorem fl_len (h : ∀ a, (enc a).length = sz) (l : List α) : (fl enc l).length = l.length * sz := by
  induction l with
  | nil => simp [fl]
  | cons a l ih =>
    have : fl enc (a :: l) = enc a ++ fl enc l := rfl
    rw [this, List.length_append, ih, h, List.length_cons, Nat.add_mul]
    omega
theorem fl_app (l m : List α) : fl enc (l ++ m) = fl enc l ++ fl enc m := by simp [fl]
theorem fl_one (a : α) : fl enc [a] = enc a := by simp [fl]
theorem fl_snoc (l : List α) (a : α) : fl enc (l ++ [a]) = fl enc l ++ enc a := by rw [fl_app, fl_one]
theorem fl_take {l : List α} {k : Nat} {a : α} (h : l[k]? = some a) : fl enc (l.take (k + 1)) = fl enc (l.take k) ++ enc a := by rw [take_snoc h, fl_snoc]
theorem fl_get (h : ∀ a, (enc a).length = sz) : ∀ {l : List α} {i : Nat} {a : α}, l[i]? = some a → ∀ {j : Nat} {v : Value}, (enc a)[j]? = some v → (fl enc l)[i * sz + j]? = some v
  | [], i, a, hi, j, v, hj => by simp at hi
  | x :: l, 0, a, hi, j, v, hj => by
    simp at hi
    subst hi
    have hlt := (List.getElem?_eq_some_iff.1 hj).1
    have : fl enc (x :: l) = enc x ++ fl enc l := rfl
    rw [this, Nat.zero_mul, Nat.zero_add, List.getElem?_append_left hlt]
    exact hj
  | x :: l, i + 1, a, hi, j, v, hj => by
    have : fl enc (x :: l) = enc x ++ fl enc l := rfl
    rw [this, List.getElem?_append_right (by rw [h, Nat.add_mul]; omega), show (i + 1) * sz + j - (enc x).length = i * sz + j by rw [h, Nat.add_mul]; omega]
    exact fl_get h (by simpa using hi) hj
theorem fl_inv (h : ∀ a, (enc a).length = sz) (hs : 0 < sz) : ∀ {l : List α} {j : Nat} {v : Value}, (fl enc l)[j]? = some v → ∃ (i : Nat) (a : α) (k : Nat), l[i]? = some a ∧ (enc a)[k]? = some v ∧ j = i * sz + k
  | [], j, v, hj => by simp [fl] at hj
  | x :: l, j, v, hj => by
    have e : fl enc (x :: l) = enc x ++ fl enc l := rfl
    rw [e] at hj
    rcases Nat.lt_or_ge j sz with hlt | hge
    · rw [List.getElem?_append_left (by rw [h]; exact hlt)] at hj
      exact ⟨0, x, j, rfl, hj, by omega⟩
    · rw [List.getElem?_append_right (by rw [h]; exact hge), h] at hj
      obtain ⟨i, a, k, h1, h2, h3⟩ := fl_inv h hs hj
      exact ⟨i + 1, a, k, by simpa using h1, h2, by rw [Nat.add_mul]; omega⟩
theorem fl_mem {l : List α} {u : Value} (hu : u ∈ fl enc l) : ∃ a ∈ l, u ∈ enc a := List.mem_flatMap.1 hu
/-- A row of a slice: where its cells lie. -/
theorem Sl.row {w : World} {A : Option Addr} {n cap : Nat} {l : List α} (hs : Sl w A n cap (fl enc l)) (h : ∀ a, (enc a).length = sz) (h0 : 0 < sz) {i : Nat} {a : α} (ha : l[i]? = some a) :
    ∃ b o, A = some ⟨b, o, none⟩ ∧ b < w.heap.size ∧ ∀ j v, (enc a)[j]? = some v → w.cell? ⟨b, o + (i * sz + j), none⟩ = some v := by
  have hj : (enc a)[0]? = some ((enc a)[0]'(by rw [h]; exact h0)) := List.getElem?_eq_getElem _
  obtain ⟨b, o, hA, hlt, hc⟩ := hs.get (fl_get h ha hj)
  exact ⟨b, o, hA, hlt, fun j v hv => hc _ _ (fl_get h ha hv)⟩
theorem add_none (b o m : Nat) : (⟨b, o, none⟩ : Addr).add m = ⟨b, o + m, none⟩ := by
  unfold Addr.add
  split
  · rename_i hz
    subst hz
    rfl
  · rfl
theorem fl_drop (h : ∀ a, (enc a).length = sz) : ∀ (l : List α) (k : Nat), (fl enc l).drop (k * sz) = fl enc (l.drop k)
  | l, 0 => by simp
  | [], k + 1 => by simp [fl]
  | x :: l, k + 1 => by
    have : fl enc (x :: l) = enc x ++ fl enc l := rfl
    rw [this, List.drop_append, h, List.drop_of_length_le (by rw [h, Nat.add_mul]; omega), show (k + 1) * sz - sz = k * sz by rw [Nat.add_mul]; omega, fl_drop h l k]
    rfl
theorem fl_takeL (h : ∀ a, (enc a).length = sz) : ∀ (l : List α) (k : Nat), (fl enc l).take (k * sz) = fl enc (l.take k)
  | l, 0 => by simp [fl]
  | [], k + 1 => by simp [fl]
  | x :: l, k + 1 => by
    have : fl enc (x :: l) = enc x ++ fl enc l := rfl
    rw [this, List.take_append, h, List.take_of_length_le (by rw [h, Nat.add_mul]; omega), show (k + 1) * sz - sz = k * sz by rw [Nat.add_mul]; omega, fl_takeL h l k]
    rfl
/-- A slice up to an element. -/
theorem Sl.take {w : World} {A : Option Addr} {n cap : Nat} {l : List α} (hs : Sl w A n cap (fl enc l)) (h : ∀ a, (enc a).length = sz) (k : Nat) (hk : k ≤ n) : Sl w A k cap (fl enc (l.take k)) := by
  refine ⟨Nat.le_trans hk hs.le, hs.cm, fun hA => ?_, ?_⟩
  · have := hs.nil hA
    omega
  · rcases hs.at_ with he | ⟨b, o, rfl, hb, hc⟩
    · left
      rw [← fl_takeL h, he, List.take_nil]
    · refine .inr ⟨b, o, rfl, hb, fun j u hu => ?_⟩
      rw [← fl_takeL h, List.getElem?_take] at hu
      split at hu
      · exact hc _ _ hu
      · cases hu
/-- A slice from an element on. -/
theorem Sl.drop {w : World} {A : Option Addr} {n cap : Nat} {l : List α} (hs : Sl w A n cap (fl enc l)) (h : ∀ a, (enc a).length = sz) (k : Nat) (hk : k ≤ n) : Sl w (A.map (fun x => x.add (k * sz))) (n - k) (cap - k) (fl enc (l.drop k)) := by
  refine ⟨by have := hs.le; omega, by have := hs.cm; omega, fun hA => ?_, ?_⟩
  · have := hs.nil (by cases A with | none => rfl | some a => cases hA)
    omega
  · rcases hs.at_ with he | ⟨b, o, rfl, hb, hc⟩
    · left
      rw [← fl_drop h, he, List.drop_nil]
    · refine .inr ⟨b, o + k * sz, by simp [add_none], hb, fun j u hu => ?_⟩
      rw [← fl_drop h, List.getElem?_drop] at hu
      rw [Nat.add_assoc]
      exact hc _ _ hu
theorem Sl.drop_cap {w : World} {A : Option Addr} {n cap : Nat} {l : List α} (hs : Sl w A n cap (fl enc l)) (k : Nat) (hk : k ≤ n) (hc : cap = k) (hl : l.length = n) : Sl w A 0 0 (fl enc (l.drop k)) := by
  have hle := hs.le
  rw [List.drop_of_length_le (by omega)]
  refine ⟨Nat.le_refl _, Nat.zero_le _, fun _ => ⟨rfl, rfl⟩, .inl rfl⟩
/-- A slice of structs that came in, as it reads. -/
theorem sl_rows {w : World} {A : Option Addr} {len cap : Nat} {L : List (List Value)} {lfs : List Lf} {P : α → Prop} (h : ∀ a, (enc a).length = sz) (h0 : 0 < sz) (hdec : ∀ row, Oks lfs row → ∃ a, row = enc a ∧ P a) (hL : L.length = len) (hle : len ≤ cap) (hcm : cap ≤ maxLen) (hnil : A = none → len = 0 ∧ cap = 0) (hok : ∀ row ∈ L, Oks lfs row) (hr : Rows w A sz L) :
    ∃ xs : List α, xs.length = len ∧ (∀ x ∈ xs, P x) ∧ Sl w A len cap (fl enc xs) := by
  obtain ⟨D, rfl, hD⟩ := decode_rows (enc := enc) (P := P) (L := L) (fun row hrow => hdec row (hok row hrow))
  refine ⟨D, by simpa using hL, hD, hle, hcm, hnil, ?_⟩
  cases D with
  | nil => exact .inl rfl
  | cons d D =>
    obtain ⟨b, o, hA, hb, hc⟩ := hr.plain (fun a => by rw [h]; exact h0) (i := 0) (d := d) rfl
    refine .inr ⟨b, o, hA, hb, fun j u hu => ?_⟩
    obtain ⟨i, a, k, hi, hk, rfl⟩ := fl_inv h h0 hu
    exact hc i a hi k u hk
/-- One struct that came in, as it reads. -/
theorem agg_dec {vs : Array Value} {lfs : List Lf} {P : α → Prop} (hdec : ∀ row, Oks lfs row → ∃ a, row = enc a ∧ P a) (h : Oks lfs vs.toList) : ∃ a, vs = (enc a).toArray ∧ P a := by
  obtain ⟨a, e, hp⟩ := hdec _ h
  exact ⟨a, by rw [← e], hp⟩
end
theorem ok64s_of {x : Int} (h : (Lit.int .i64 x).wf = true) : -9223372036854775808 ≤ x ∧ x ≤ 9223372036854775807 := by
  simp only [Lit.wf, Bool.and_eq_true, decide_eq_true_eq] at h
  exact ⟨h.1, h.2⟩
end Go.Proofs.Ytninaaolbgchpaa
