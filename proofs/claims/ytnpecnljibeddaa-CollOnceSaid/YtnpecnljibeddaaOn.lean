/- CollOnce, the plain part: what is open, what was told, what came. -/
import Derived.Test.YtnpecnljibeddaaCw
import Derived.Test.YtnpecnljibeddaaCp
import Derived.Test.YtnpecnljibeddaaCc
import Derived.Test.YtnpecnljibeddaaDd
namespace Go.Proofs.Ytnpecnljibeddaa
open Go.RowKit
set_option linter.unusedVariables false
set_option linter.unusedSimpArgs false

/-- A batch that was told. -/
structure TE where
  A : Option Addr
  n : Nat
  c : Nat
  M : Option Addr
  m : Nat
  d : Nat
  b : BT
def te2 (t : TE) : List Value := [.slice t.A t.n t.c, .slice t.M t.m t.d]
theorem te2_len (t : TE) : (te2 t).length = 2 := rfl
/-- All that was told lies where it is told. -/
def Told (w : World) (F : Nat → Prop) (ts : List TE) : Prop := ∀ t ∈ ts, t.b.1.length = t.n ∧ t.b.2.length = t.m ∧ Kp w F t.A t.n t.c (nums t.b.1) ∧ Kp w F t.M t.m t.d (prs t.b.2)
section
variable {w0 w w' : World} {F F' S : Nat → Prop} {g : Nat} {p p' : Option Nat} {win most : Int} {s s' : CSt} {A M : Option Addr} {n c m d : Nat} {b : BT} {ts : List TE}
theorem Told.nil (w : World) (F : Nat → Prop) : Told w F [] := fun t h => by cases h
theorem Told.imp (h : Told w F ts) (hk : ∀ {A : Option Addr} {n c : Nat} {cs : List Value}, Kp w F A n c cs → Kp w' F' A n c cs) : Told w' F' ts := fun t ht => by
  obtain ⟨h1, h2, h3, h4⟩ := h t ht
  exact ⟨h1, h2, hk h3, hk h4⟩
theorem Told.grow (h : Told w F ts) (hu : Upd (fun _ => False) w w') (hF : ∀ k, F' k → F k ∨ (w.heap.size ≤ k ∧ k < w'.heap.size)) : Told w' F' ts := h.imp (fun h => h.grow hu hF)
theorem Told.keep (h : Told w F ts) (hu : Upd S w w') (hS : ∀ k, S k → F k) : Told w' F ts := h.imp (fun h => h.keep hu hS)
theorem Told.keep0 (h : Told w F ts) (hu : Upd (fun _ => False) w w') : Told w' F ts := h.imp (fun h => h.keep0 hu)
theorem Told.wg (h : Told w F ts) (hu : Upd S w w') (hS : ∀ k, S k → F k) (hF : ∀ k, F' k → F k ∨ (w.heap.size ≤ k ∧ k < w'.heap.size)) : Told w' F' ts := h.imp (fun h => h.wg hu hS hF)
theorem CW.told (h : CW w0 w F g p win most s) (hp : CPost w w' F g p p' win most s' A M n c m d b) (ht : Told w F ts) : Told w' (Nx F p') ts := ht.imp (fun hk => h.kp hp hk)
theorem Told.snoc (h : Told w F ts) (hn : b.1.length = n) (hm : b.2.length = m) (ha : Kp w F A n c (nums b.1)) (hk : Kp w F M m d (prs b.2)) : Told w F (ts ++ [⟨A, n, c, M, m, d, b⟩]) := fun t ht => by
  rcases List.mem_append.1 ht with ht | ht
  · exact h t ht
  · simp only [List.mem_singleton] at ht
    subst ht
    exact ⟨hn, hm, ha, hk⟩
end
/-- The arguments that are open. -/
def oids (s : CSt) : List Int := match s with | none => [] | some (b, _) => b.2.map Prod.fst
def tids (ts : List TE) : List Int := ts.flatMap (fun t => t.b.2.map Prod.fst)
theorem tids_snoc (ts : List TE) (t : TE) : tids (ts ++ [t]) = tids ts ++ t.b.2.map Prod.fst := by simp [tids]
/-- A window with room: what is open has fewer arguments than there may be. -/
def CIo (N : Nat) (s : CSt) : Prop := match s with | none => True | some (b, _) => 1 ≤ b.1.length ∧ b.1.length < N
structure OI (N : Nat) (s : CSt) (due : Int) (ts : List TE) (came : List Int) (k j : Nat) : Prop where
  ci : CIo N s
  ids : tids ts ++ oids s = came
  args : ∀ t ∈ ts, 1 ≤ t.b.1.length ∧ t.b.1.length ≤ N
  due : ∀ b e, s = some (b, e) → e = due ∧ e ≤ 18446744073709551615
  mem : cmem s ≤ k
  len : ts.length ≤ j
section
variable {N : Nat} {s : CSt} {due : Int} {ts : List TE} {came : List Int} {k j : Nat}
theorem OI.zero (N : Nat) : OI N none 0 [] [] 0 0 := ⟨trivial, rfl, (fun t h => by cases h), (fun b e h => by cases h), Nat.le_refl _, Nat.le_refl _⟩
theorem OI.more (h : OI N s due ts came k j) : OI N s due ts came k (j + 1) := ⟨h.ci, h.ids, h.args, h.due, h.mem, Nat.le_succ_of_le h.len⟩
theorem OI.close {b : BT} {e : Int} (h : OI N (some (b, e)) due ts came k j) (t : TE) (ht : t.b = b) : OI N none due (ts ++ [t]) came k (j + 1) := by
  obtain ⟨h1, h2, h3, h4, h5, h6⟩ := h
  refine ⟨trivial, ?_, fun u hu => ?_, (fun b e h => by cases h), Nat.zero_le _, by simpa using h6⟩
  · rw [tids_snoc, ht, ← h2]; simp [oids]
  · rcases List.mem_append.1 hu with hu | hu
    · exact h3 u hu
    · simp only [List.mem_singleton] at hu
      subst hu
      rw [ht]
      simp only [CIo] at h1
      omega
/-- What one more does. -/
structure OStep (N : Nat) (s s' : CSt) (id : Int) (op rd : Bool) (due due' : Int) (b : BT) : Prop where
  ci : CIo N s'
  yes : rd = true → s' = none ∧ 1 ≤ b.1.length ∧ b.1.length ≤ N ∧ b.2.map Prod.fst = oids s ++ [id]
  no : rd = false → oids s' = oids s ++ [id]
  opn : op = true → ∀ b e, s' = some (b, e) → e = due' ∧ e ≤ 18446744073709551615
  old : op = false → ∀ b e, s' = some (b, e) → e = due ∧ e ≤ 18446744073709551615
theorem sat_le (a b : Int) : sat a b ≤ 18446744073709551615 := by unfold sat; split <;> omega
theorem ostep {win now id arg due' : Int} (hN : 1 ≤ N) (h : OI N s due ts came k j) {s' : CSt} {op rd : Bool} {bb : BT} (hadd : cadd win (N : Int) s now id arg = (s', op, rd, due', bb)) : OStep N s s' id op rd due due' bb := by
  cases s with
  | none =>
    unfold cadd cput at hadd
    simp only at hadd
    by_cases hr : (N : Int) ≤ ((([arg], [(id, 0)]) : BT).1.length : Int)
    · rw [if_pos hr] at hadd
      simp only [Prod.mk.injEq] at hadd
      obtain ⟨rfl, rfl, rfl, rfl, rfl⟩ := hadd
      exact ⟨trivial, (fun _ => ⟨rfl, by simp, by simpa using hN, rfl⟩), (fun h => by cases h), (fun _ b e h => by cases h), (fun h => by cases h)⟩
    · rw [if_neg hr] at hadd
      simp only [Prod.mk.injEq] at hadd
      obtain ⟨rfl, rfl, rfl, rfl, rfl⟩ := hadd
      refine ⟨⟨by simp, by simp at hr ⊢; omega⟩, (fun h => by cases h), (fun _ => rfl), (fun _ b e h => ?_), (fun h => by cases h)⟩
      injection h with h
      injection h with h1 h2
      exact ⟨h2.symm, h2 ▸ sat_le _ _⟩
  | some be =>
    obtain ⟨⟨xs, ms⟩, e0⟩ := be
    obtain ⟨⟨h1, h2⟩, _, _, h4, _, _⟩ := h
    obtain ⟨rfl, h5⟩ := h4 _ _ rfl
    simp only at h1 h2
    unfold cadd cput badd at hadd
    simp only at hadd
    by_cases hi : idx xs arg < xs.length
    · rw [if_pos hi] at hadd
      rw [if_neg (by simp only; omega)] at hadd
      simp only [Prod.mk.injEq] at hadd
      obtain ⟨rfl, rfl, rfl, rfl, rfl⟩ := hadd
      refine ⟨⟨h1, h2⟩, (fun h => by cases h), (fun _ => by simp [oids]), (fun h => by cases h), (fun _ b e h => ?_)⟩
      injection h with h
      injection h with h6 h7
      exact ⟨h7.symm, h7 ▸ h5⟩
    · rw [if_neg hi, if_neg (show ¬ (N : Int) ≤ (xs.length : Int) by omega)] at hadd
      simp only at hadd
      have hlen : (xs ++ [arg]).length = xs.length + 1 := by simp
      by_cases hr : (N : Int) ≤ (((xs ++ [arg]).length : Nat) : Int)
      · rw [if_pos hr] at hadd
        simp only [Prod.mk.injEq] at hadd
        obtain ⟨rfl, rfl, rfl, rfl, rfl⟩ := hadd
        exact ⟨trivial, (fun _ => ⟨rfl, by simp, by simp only [hlen]; omega, by simp [oids]⟩), (fun h => by cases h), (fun _ b e h => by cases h), (fun _ b e h => by cases h)⟩
      · rw [if_neg hr] at hadd
        simp only [Prod.mk.injEq] at hadd
        obtain ⟨rfl, rfl, rfl, rfl, rfl⟩ := hadd
        refine ⟨⟨by simp, by simp only [hlen] at hr ⊢; omega⟩, (fun h => by cases h), (fun _ => by simp [oids]), (fun h => by cases h), (fun _ b e h => ?_)⟩
        injection h with h
        injection h with h6 h7
        exact ⟨h7.symm, h7 ▸ h5⟩
theorem OI.add {id due' : Int} {s' : CSt} {op rd : Bool} {bb : BT} (h : OI N s due ts came k j) (hs : OStep N s s' id op rd due due' bb) (hm : cmem s' ≤ k + 1) (hrd : rd = false) : OI N s' (if op = true then due' else due) ts (came ++ [id]) (k + 1) (j + 1) := by
  refine ⟨hs.ci, ?_, h.args, fun b e hb => ?_, hm, Nat.le_succ_of_le h.len⟩
  · rw [hs.no hrd, ← h.ids, List.append_assoc]
  · cases op with
    | true => exact hs.opn rfl b e hb
    | false => exact hs.old rfl b e hb
theorem OI.addR {id due' : Int} {s' : CSt} {op rd : Bool} {bb : BT} (h : OI N s due ts came k j) (hs : OStep N s s' id op rd due due' bb) (hrd : rd = true) (t : TE) (ht : t.b = bb) (z : Int) : OI N s' z (ts ++ [t]) (came ++ [id]) (k + 1) (j + 1) := by
  obtain ⟨h1, h2, h3, h4⟩ := hs.yes hrd
  subst h1
  refine ⟨trivial, ?_, fun u hu => ?_, (fun b e h => by cases h), Nat.zero_le _, by simpa using h.len⟩
  · rw [tids_snoc, ht, h4, ← h.ids]; simp [oids]
  · rcases List.mem_append.1 hu with hu | hu
    · exact h.args u hu
    · simp only [List.mem_singleton] at hu
      subst hu
      rw [ht]
      exact ⟨h2, h3⟩
theorem oi_args (hN : N ≤ 4) (h : OI N s due ts came k j) : cargs s ≤ 4 := by
  have := h.ci
  cases s with
  | none => simp [cargs]
  | some be => obtain ⟨b, e⟩ := be; obtain ⟨h1, h2⟩ := this; simp only [cargs]; omega
end
/-- All that the law holds while they come. -/
structure OSt (w wr : World) (F : Nat → Prop) (g : Nat) (p : Option Nat) (win : Int) (N : Nat) (s : CSt) (due : Int) (Vc : Option Addr) (k cc : Nat) (Vt : Option Addr) (a ct : Nat) (ts : List TE) (came : List Int) (kk j : Nat) : Prop where
  cw : CW w wr F g p win (N : Int) s
  oi : OI N s due ts came kk j
  oc : wr.ownsRow w.heap.size 3 1 (.slice Vc k cc) k (nums came)
  mc : ∀ b_, (.slice Vc k cc : Value).ownBlock = some b_ → F b_
  ot : wr.ownsRow w.heap.size 40 2 (.slice Vt a ct) a (fl te2 ts)
  mt : ∀ b_, (.slice Vt a ct : Value).ownBlock = some b_ → F b_
  td : Told wr F ts
section
variable {w wr w4 w6 w7 : World} {F : Nat → Prop} {g : Nat} {p p' : Option Nat} {win : Int} {N : Nat} {s s' : CSt} {due : Int} {Vc : Option Addr} {k cc : Nat} {Vt : Option Addr} {a ct : Nat} {ts : List TE} {came : List Int} {kk j gg cp : Nat} {A M : Option Addr} {n c m d : Nat} {b : BT}
theorem OSt.keep0 (h : OSt w wr F g p win N s due Vc k cc Vt a ct ts came kk j) (hu : Upd (fun _ => False) wr w7) : OSt w w7 F g p win N s due Vc k cc Vt a ct ts came kk j :=
  ⟨h.cw.keep0 hu, h.oi, own_upd0 h.oc hu, h.mc, own_upd0 h.ot hu, h.mt, h.td.keep0 hu⟩
theorem OSt.tellB (cw : CW w w6 F g p win (N : Int) s) (oc : w6.ownsRow w.heap.size 3 1 (.slice Vc k cc) k (nums came)) (mc : ∀ b_, (.slice Vc k cc : Value).ownBlock = some b_ → F b_) (ot : w6.ownsRow w.heap.size 40 2 (.slice Vt a ct) a (fl te2 ts)) (mt : ∀ b_, (.slice Vt a ct : Value).ownBlock = some b_ → F b_) (td : Told w6 F ts)
    (hn : b.1.length = n) (hm : b.2.length = m) (ka : Kp w6 F A n c (nums b.1)) (km : Kp w6 F M m d (prs b.2))
    (hown : w7.ownsRow w.heap.size 40 2 (.slice (some ⟨gg, 0, none⟩) (a + 1) cp) (a + 1) (fl te2 ts ++ [.slice A n c, .slice M m d])) (hgrow : w6.grownBy w7 (Value.slice Vt a ct).ownBlock) (hat : (Value.slice Vt a ct).ownBlock = some gg ∨ gg = w6.heap.size) (hlt : gg < w7.heap.size)
    (oi : OI N s due (ts ++ [⟨A, n, c, M, m, d, b⟩]) came kk j) :
    OSt w w7 (Pl F gg) g p win N s due Vc k cc (some ⟨gg, 0, none⟩) (a + 1) cp (ts ++ [⟨A, n, c, M, m, d, b⟩]) came kk j := by
  have hS : ∀ k_, (Value.slice Vt a ct).ownBlock = some k_ → F k_ := fun k_ hk_ => mt k_ hk_
  have hF : ∀ k_, Pl F gg k_ → F k_ ∨ (w6.heap.size ≤ k_ ∧ k_ < w7.heap.size) := fun k_ hk_ => hk_.elim .inl (fun e_ => by subst e_; exact hat.elim (fun h_ => .inl (mt _ h_)) (fun h_ => .inr ⟨h_ ▸ Nat.le_refl _, hlt⟩))
  refine ⟨cw.wg (Upd.of_grown hgrow) hS (fun k_ hk_ h1_ => cw.isC.ne_own ot (by decide) (by decide) k_ h1_ hk_) hF (fun _ h_ => .inl h_), oi, own_upd oc (Upd.of_grown hgrow) (fun b_ h1 h2 => own_apart oc ot (by decide) b_ h1 h2), (fun b_ h_ => .inl (mc b_ h_)), ?_, (fun b_ h_ => .inr (by simpa [Value.ownBlock] using h_.symm)), ?_⟩
  · rw [fl_snoc]; exact hown
  · exact (td.wg (Upd.of_grown hgrow) hS hF).snoc hn hm (ka.wg (Upd.of_grown hgrow) hS hF) (km.wg (Upd.of_grown hgrow) hS hF)
/-- Nothing is told, and one more came. -/
theorem OSt.comeB {id : Int} (cw : CW w w6 F g p win (N : Int) s) (oc : w6.ownsRow w.heap.size 3 1 (.slice Vc k cc) k (nums came)) (mc : ∀ b_, (.slice Vc k cc : Value).ownBlock = some b_ → F b_) (ot : w6.ownsRow w.heap.size 40 2 (.slice Vt a ct) a (fl te2 ts)) (mt : ∀ b_, (.slice Vt a ct : Value).ownBlock = some b_ → F b_) (td : Told w6 F ts)
    (hown : w7.ownsRow w.heap.size 3 1 (.slice (some ⟨gg, 0, none⟩) (k + 1) cp) (k + 1) (nums came ++ [.int .i64 id])) (hgrow : w6.grownBy w7 (Value.slice Vc k cc).ownBlock) (hat : (Value.slice Vc k cc).ownBlock = some gg ∨ gg = w6.heap.size) (hlt : gg < w7.heap.size) :
    CW w w7 (Pl F gg) g p win (N : Int) s ∧ w7.ownsRow w.heap.size 3 1 (.slice (some ⟨gg, 0, none⟩) (k + 1) cp) (k + 1) (nums (came ++ [id])) ∧ (∀ b_, (.slice (some ⟨gg, 0, none⟩) (k + 1) cp : Value).ownBlock = some b_ → Pl F gg b_) ∧ w7.ownsRow w.heap.size 40 2 (.slice Vt a ct) a (fl te2 ts) ∧ (∀ b_, (.slice Vt a ct : Value).ownBlock = some b_ → Pl F gg b_) ∧ Told w7 (Pl F gg) ts := by
  have hS : ∀ k_, (Value.slice Vc k cc).ownBlock = some k_ → F k_ := fun k_ hk_ => mc k_ hk_
  have hF : ∀ k_, Pl F gg k_ → F k_ ∨ (w6.heap.size ≤ k_ ∧ k_ < w7.heap.size) := fun k_ hk_ => hk_.elim .inl (fun e_ => by subst e_; exact hat.elim (fun h_ => .inl (mc _ h_)) (fun h_ => .inr ⟨h_ ▸ Nat.le_refl _, hlt⟩))
  refine ⟨cw.wg (Upd.of_grown hgrow) hS (fun k_ hk_ h1_ => cw.isC.ne_own oc (by decide) (by decide) k_ h1_ hk_) hF (fun _ h_ => .inl h_), ?_, (fun b_ h_ => .inr (by simpa [Value.ownBlock] using h_.symm)), own_upd ot (Upd.of_grown hgrow) (fun b_ h1 h2 => own_apart ot oc (by decide) b_ h1 h2), (fun b_ h_ => .inl (mt b_ h_)), td.wg (Upd.of_grown hgrow) hS hF⟩
  rw [nums_app]
  exact hown
end
/-- Where a told batch's members stand among all that came. -/
theorem tids_get : ∀ {ts : List TE} {i : Nat} {t : TE}, ts[i]? = some t → ∀ {q : Nat} {m : Int × Int}, t.b.2[q]? = some m → (tids ts)[(tids (ts.take i)).length + q]? = some m.1
  | [], i, t, h, q, m, hm => by simp at h
  | x :: ts, 0, t, h, q, m, hm => by
    simp only [List.getElem?_cons_zero, Option.some.injEq] at h
    subst h
    have hq : q < x.b.2.length := (List.getElem?_eq_some_iff.1 hm).1
    simp only [List.take_zero, tids, List.flatMap_nil, List.length_nil, Nat.zero_add, List.flatMap_cons]
    rw [List.getElem?_append_left (by simpa using hq)]
    simp [hm]
  | x :: ts, i + 1, t, h, q, m, hm => by
    have ih := tids_get (ts := ts) (i := i) (by simpa using h) hm
    simp only [List.take_succ_cons, tids, List.flatMap_cons, List.length_append] at ih ⊢
    rw [List.getElem?_append_right (by omega)]
    rw [show (List.map Prod.fst x.b.2).length + (List.flatMap (fun t => List.map Prod.fst t.b.2) (List.take i ts)).length + q - (List.map Prod.fst x.b.2).length = (List.flatMap (fun t => List.map Prod.fst t.b.2) (List.take i ts)).length + q by omega]
    exact ih
theorem tids_step {ts : List TE} {i : Nat} {t : TE} (h : ts[i]? = some t) : (tids (ts.take (i + 1))).length = (tids (ts.take i)).length + t.b.2.length := by
  rw [take_snoc h, tids_snoc]
  simp
end Go.Proofs.Ytnpecnljibeddaa
