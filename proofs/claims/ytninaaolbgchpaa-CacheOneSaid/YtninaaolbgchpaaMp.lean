/- Maps: what stands at a key. -/
import Derived.Test.YtninaaolbgchpaaOw
import Derived.Maps.OwnSet
import Derived.WalkSpells
namespace Go.Proofs.Ytninaaolbgchpaa
open Go.RowKit
open Go.Maps (Keyed IsMap Tidy)
set_option linter.unusedVariables false
set_option linter.unusedSimpArgs false

/-- An element is held as it is. -/
def hv (v : Value) : Option (DataW Value × List MemPlace) := some (.held v, [])
/-- Block b is a map. -/
def Mp (w : World) (P : Program) (k : TypeId) (b n : Nat) (D : DataW Value) : Prop := w.ownsMap P k hv b n D
/-- What stands at a key. -/
def mat (D : DataW Value) (kl : Lit) : Option Value :=
  if Maps.has D kl = true then (match D.atKey kl .nil with | .held v => some v | _ => none) else none
theorem mat_empty (kl : Lit) : mat (.map []) kl = none := by simp [mat, Maps.has]
theorem mat_put_same {D : DataW Value} (hD : IsMap D) {k : Lit} (hk : WideAt.IsKeyLit k) (v : Value) : mat (D.put k (.held v)) k = some v := by
  unfold mat
  rw [Maps.has_put_same hD hk, if_pos rfl, Maps.atKey_put_same hD hk]
theorem mat_put_other {D : DataW Value} {k k' : Lit} (hne : k' ≠ k) (d : DataW Value) : mat (D.put k d) k' = mat D k' := by
  unfold mat
  rw [Maps.has_put_other hne, Maps.atKey_put_other hne]
theorem mat_del_same {D : DataW Value} {k : Lit} : mat (D.del k) k = none := by
  unfold mat
  rw [Maps.has_del_same, if_neg (by simp)]
theorem mat_del_other {D : DataW Value} {k k' : Lit} (hne : k' ≠ k) : mat (D.del k) k' = mat D k' := by
  unfold mat
  rw [Maps.has_del_other hne, Maps.atKey_del_other hne]
theorem has_of_mat {D : DataW Value} {k : Lit} {v : Value} (h : mat D k = some v) : Maps.has D k = true := by
  unfold mat at h
  split at h
  · assumption
  · cases h
section
variable {P : Program} {k : TypeId} {w w' : World} {b n : Nat} {D : DataW Value}
theorem Mp.made (w : World) (P : Program) (k : TypeId) : Mp (w.alloc (.map #[] 0)) P k w.heap.size 0 (.map []) := World.ownsMap_made w P k hv
theorem Mp.lt (h : Mp w P k b n D) : b < w.heap.size := World.ownsMap.lt h
theorem Mp.upd {S : Nat → Prop} (h : Mp w P k b n D) (hu : Upd S w w') (hn : ¬ S b) : Mp w' P k b n D := by
  have hlt := h.lt
  obtain ⟨es, clock, hb, r⟩ := h
  exact ⟨es, clock, (hu.block b hlt hn).trans hb, r⟩
theorem Mp.upd0 (h : Mp w P k b n D) (hu : Upd (fun _ => False) w w') : Mp w' P k b n D := h.upd hu (fun h => h)
theorem Mp.alloc (h : Mp w P k b n D) (o : Obj) : Mp (w.alloc o) P k b n D := h.upd0 ((Upd.refl _ _).alloc o)
theorem Mp.drew (h : Mp w P k b n D) : Mp w.drew P k b n D := h
theorem Mp.drewN (h : Mp w P k b n D) (m : Nat) : Mp (w.drewN m) P k b n D := h
theorem Mp.far (h : Mp w P k b n D) {p : Addr} (hp : b ≠ p.block) (u : Value) : Mp (w.setCell p u) P k b n D := World.ownsMap.setCell h hp u
theorem Mp.isMap (h : Mp w P k b n D) : IsMap D := World.ownsMap.isMap h
theorem Mp.tidy (h : Mp w P k b n D) (K : Keyed P k) : Tidy D := World.ownsMap.tidy h K
/-- A map lies apart from a row. -/
theorem Mp.ne_blk (h : Mp w P k b n D) {g : Nat} {t : TypeId} {cs : Array Value} (h' : Blk w g t cs) : b ≠ g := by
  rintro rfl
  obtain ⟨es, clock, hb, _⟩ := h
  unfold Blk at h'
  rw [h'] at hb
  cases hb
theorem Mp.ne_own (h : Mp w P k b n D) {base : Nat} {e : TypeId} {size m : Nat} {v : Value} {xs : List Value} (h' : w.ownsRow base e size v m xs) : v.ownBlock ≠ some b := by
  rcases h'.2 with ⟨rfl, _⟩ | ⟨g', cap, cur, rfl, _, hh, _⟩
  · simp [Value.ownBlock]
  · intro he
    have he : g' = b := by simpa [Value.ownBlock] using he
    subst he
    obtain ⟨es, clock, hb, _⟩ := h
    rw [hh] at hb
    cases hb
theorem upd_turned (h : w.mapTurned w' b) : Upd (At b) w w' := (Upd.of_grown h.grown).mono (fun i hi => .inl (by injection hi with hi; exact hi.symm))
/-- What is looked up: with a word on whether it is there. -/
theorem Mp.look_some {t e : TypeId} (h : Mp w P k b n D) (K : Keyed P k) (ht : P.underlying t = some (.map k e)) {z : Value} (hz : (zeroValue e).run P w = .ok z w) {key : Value} {kl : Lit} (hkey : keyOf P k key = some kl) {v : Value} (hat : mat D kl = some v) (c : Bool) :
    (Instr.lookup t (.map (some b)) key c).run P w = .ok (if c then .tuple #[v, .bool true] else v) w := by
  obtain ⟨es, clock, hb, F, _, rfl⟩ := h
  rcases Maps.fit_look c K ht hz hb F hkey with ⟨hrun, _, hno⟩ | ⟨e0, y, _, _, hrun, hRv, hyes, _⟩
  · exfalso
    have h1 := has_of_mat hat
    rw [Maps.has_false_of_atKey hno] at h1
    cases h1
  · unfold mat at hat
    rw [if_pos (Maps.has_true_of_atKey hyes), hyes] at hat
    simp only [hv, Option.some.injEq] at hRv
    subst hRv
    simp only [Option.some.injEq] at hat
    rw [hrun, hat]
theorem Mp.look_none {t e : TypeId} (h : Mp w P k b n D) (K : Keyed P k) (ht : P.underlying t = some (.map k e)) {z : Value} (hz : (zeroValue e).run P w = .ok z w) {key : Value} {kl : Lit} (hkey : keyOf P k key = some kl) (hat : mat D kl = none) (c : Bool) :
    (Instr.lookup t (.map (some b)) key c).run P w = .ok (if c then .tuple #[z, .bool false] else z) w := by
  obtain ⟨es, clock, hb, F, _, rfl⟩ := h
  rcases Maps.fit_look c K ht hz hb F hkey with ⟨hrun, _, hno⟩ | ⟨e0, y, _, _, hrun, hRv, hyes, _⟩
  · exact hrun
  · exfalso
    unfold mat at hat
    rw [if_pos (Maps.has_true_of_atKey hyes), hyes] at hat
    simp only [hv, Option.some.injEq] at hRv
    subst hRv
    cases hat
theorem Mp.has_iff (h : Mp w P k b n D) (K : Keyed P k) {key : Value} {kl : Lit} (hkey : keyOf P k key = some kl) : Maps.has D kl = (mat D kl).isSome := by
  cases hm : mat D kl with
  | some v => rw [has_of_mat hm]; rfl
  | none =>
    obtain ⟨es, clock, hb, F, _, rfl⟩ := h
    cases hh : Maps.has (DataW.map ((es.toList.map (WideElems.rg P k hv)).foldr DataW.insert [])) kl with
    | false => rfl
    | true =>
      exfalso
      unfold mat at hm
      rw [if_pos hh] at hm
      obtain ⟨p, hp, hpk⟩ := List.any_eq_true.1 hh
      have hs : (((es.toList.map (WideElems.rg P k hv)).foldr DataW.insert []).find? (fun p => p.1.sameKey kl)).isSome = true := List.find?_isSome.2 ⟨p, hp, hpk⟩
      obtain ⟨x, hx⟩ := Option.isSome_iff_exists.1 hs
      have hx2 : (DataW.map ((es.toList.map (WideElems.rg P k hv)).foldr DataW.insert [])).atKey kl .nil = x.2 := by simp [DataW.atKey, hx]
      rw [hx2] at hm
      have hxm := (WideShapes.sorted_perm _).mem_iff.1 (List.mem_of_find?_eq_some hx)
      obtain ⟨e0, he0, rfl⟩ := List.mem_map.1 hxm
      obtain ⟨y, hy⟩ := F.reads e0 he0
      obtain ⟨z, hz, hd⟩ := WideElems.rd_val hy
      rw [WideElems.rg_of hy] at hm
      simp only [hv, Option.some.injEq] at hz
      subst hz
      rw [hd] at hm
      cases hm
end
section
variable {P : Program} (w : World) {ops : Array Oper} {rest : List Oper} {o : Oper} {a : Act} {Q : Exit → Act → World → Prop}
theorem wpList_look_some (hg : o.guard = none) (m x : Operand) (t : TypeId) (hop : o.op = Op.lookup t m x true) (k e : TypeId) (K : Keyed P k) (ht : P.underlying t = some (.map k e)) {z : Value} (hz : (zeroValue e).run P w = .ok z w) (b n : Nat) (D : DataW Value)
    (hm : a.eval m = .map (some b)) (hown : Mp w P k b n D) (key : Value) (kl : Lit) (hx : a.eval x = key) (hkey : keyOf P k key = some kl) (v : Value) (hat : mat D kl = some v)
    (hK : wpList P ops Q rest (a.put o.dst (.tuple #[v, .bool true])) w) : wpList P ops Q (o :: rest) a w := by
  refine wpList_plain hg fun K' hK' => ?_
  have hrun := hown.look_some K ht hz hkey hat true
  simp only [if_true] at hrun
  unfold Oper.wp
  simp [execOp, hop, hm, hx, hrun, Result.andThen]
  exact hK' _ _ hK
theorem wpList_look_none (hg : o.guard = none) (m x : Operand) (t : TypeId) (hop : o.op = Op.lookup t m x true) (k e : TypeId) (K : Keyed P k) (ht : P.underlying t = some (.map k e)) (z : Value) (hz : (zeroValue e).run P w = .ok z w) (b n : Nat) (D : DataW Value)
    (hm : a.eval m = .map (some b)) (hown : Mp w P k b n D) (key : Value) (kl : Lit) (hx : a.eval x = key) (hkey : keyOf P k key = some kl) (hat : mat D kl = none)
    (hK : wpList P ops Q rest (a.put o.dst (.tuple #[z, .bool false])) w) : wpList P ops Q (o :: rest) a w := by
  refine wpList_plain hg fun K' hK' => ?_
  have hrun := hown.look_none K ht hz hkey hat true
  simp only [if_true] at hrun
  unfold Oper.wp
  simp [execOp, hop, hm, hx, hrun, Result.andThen]
  exact hK' _ _ hK
/-- Without a word on whether it is there. -/
theorem wpList_look (hg : o.guard = none) (m x : Operand) (t : TypeId) (hop : o.op = Op.lookup t m x false) (k e : TypeId) (K : Keyed P k) (ht : P.underlying t = some (.map k e)) (z : Value) (hz : (zeroValue e).run P w = .ok z w) (b n : Nat) (D : DataW Value)
    (hm : a.eval m = .map (some b)) (hown : Mp w P k b n D) (key : Value) (kl : Lit) (hx : a.eval x = key) (hkey : keyOf P k key = some kl) (v : Value) (hat : (mat D kl).getD z = v)
    (hK : wpList P ops Q rest (a.put o.dst v) w) : wpList P ops Q (o :: rest) a w := by
  refine wpList_plain hg fun K' hK' => ?_
  have hrun : (Instr.lookup t (.map (some b)) key false).run P w = .ok v w := by
    cases hc : mat D kl with
    | none =>
      rw [hc] at hat
      have := hown.look_none K ht hz hkey hc false
      simpa [← hat] using this
    | some u =>
      rw [hc] at hat
      have := hown.look_some K ht hz hkey hc false
      simpa [← hat] using this
  unfold Oper.wp
  simp [execOp, hop, hm, hx, hrun, Result.andThen]
  exact hK' _ _ hK
theorem wpList_put (hg : o.guard = none) (m x v : Operand) (t : TypeId) (hop : o.op = Op.mapUpdate t m x v) (k e : TypeId) (K : Keyed P k) (ht : P.underlying t = some (.map k e)) (b n : Nat) (D : DataW Value)
    (hm : a.eval m = .map (some b)) (hown : Mp w P k b n D) (hn : n < maxLen) (key val : Value) (kl : Lit) (hx : a.eval x = key) (hv : a.eval v = val) (hkey : keyOf P k key = some kl)
    (hK : ∀ w', Mp w' P k b (n + 1) (D.put kl (.held val)) → Upd (At b) w w' → wpList P ops Q rest (a.put o.dst undef) w') : wpList P ops Q (o :: rest) a w :=
  wpList_mapUpdate_in w hg m x v t hop k e K ht Go.Proofs.Ytninaaolbgchpaa.hv b n D hm hown hn key val kl hx hv hkey (.held val) [] rfl (fun w' h1 h2 => hK w' h1 (upd_turned h2))
theorem wpList_del (hg : o.guard = none) (m x : Operand) (t k : TypeId) (hop : o.op = Op.call { callee := Callee.builtin Builtin.delete, args := #[m, x], argTypes := #[t, k] }) (e : TypeId) (K : Keyed P k) (ht : P.underlying t = some (.map k e)) (b n : Nat) (D : DataW Value)
    (hm : a.eval m = .map (some b)) (hown : Mp w P k b n D) (key : Value) (kl : Lit) (hx : a.eval x = key) (hkey : keyOf P k key = some kl)
    (hK : ∀ w', Mp w' P k b n (D.del kl) → Upd (At b) w w' → wpList P ops Q rest (a.put o.dst (.tuple #[])) w') : wpList P ops Q (o :: rest) a w :=
  wpList_delete_own w hg m x t k hop e K ht Go.Proofs.Ytninaaolbgchpaa.hv b n D hm hown key kl hx hkey (fun w' h1 h2 => hK w' h1 (upd_turned h2))
theorem wpList_size (hg : o.guard = none) (m : Operand) (t : TypeId) (hop : o.op = Op.call { callee := Callee.builtin Builtin.len, args := #[m], argTypes := #[t] }) (k e : TypeId) (ht : P.underlying t = some (.map k e)) (b n : Nat) (D : DataW Value) (hm : a.eval m = .map (some b)) (hown : Mp w P k b n D)
    (hK : wpList P ops Q rest (a.put o.dst (.int .i64 (Maps.size D))) w) : wpList P ops Q (o :: rest) a w :=
  wpList_len_own w hg m t hop k e ht Go.Proofs.Ytninaaolbgchpaa.hv b n D hm hown hK
end
end Go.Proofs.Ytninaaolbgchpaa
