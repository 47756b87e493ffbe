/- Who asks: what is known, who joins. -/
import Derived.Test.YtninaaolbgchpaaSj
import Derived.Maps.AppendAt
namespace Go.Proofs.Ytninaaolbgchpaa
open Go.RowKit
open Go.Maps (Keyed IsMap Tidy)
set_option linter.unusedVariables false
set_option linter.unusedSimpArgs false

section
variable {w w' : World} {base g bk bj N N' : Nat} {F F' S : Nat → Prop} {E E' : List En} {J J' : List J2}
theorem CS.mk_keys (h : CS w base g bk bj F E J N) (hu : Upd (At bk) w w') (hids : ∀ e ∈ E', iok e.id) (hN : N ≤ N') (hk : Keys w' base F bk N' E') : CS w' base g bk bj F E' J N' := by
  have hgb : g ≠ bk := fun e => h.gF (e ▸ h.fk)
  obtain ⟨n, D, EP, hn, hm, _⟩ := h.keys
  obtain ⟨n', D', JL, hn', hr⟩ := h.joins.upd hu (fun e => h.kj e.symm) (fun k hk => .inr (.inr hk)) (Mp.ne_own' hm) (fun _ hk => hk)
  exact ⟨h.blk.upd hu hgb, h.gb, h.fk, h.fj, fun k hk => ⟨(h.fr k hk).1, Nat.lt_of_lt_of_le (h.fr k hk).2 hu.size⟩, h.kj, h.gF, hids, Nat.le_trans h.jn hN, hk, ⟨n', D', JL, Nat.le_trans hn' hN, hr⟩⟩
theorem CS.mk_joins (h : CS w base g bk bj F E J N) (hu : Upd S w w') (hS : ∀ k, S k → F k ∨ w.heap.size ≤ k) (hSk : ¬ S bk) (hN : N ≤ N') (hJ' : J'.length ≤ N') (hF1 : ∀ k, F k → F' k) (hF2 : ∀ k, F' k → F k ∨ w.heap.size ≤ k) (hF3 : ∀ k, F' k → k < w'.heap.size) (hJ : Joins w' base F' bj N' J') : CS w' base g bk bj F' E J' N' := by
  have hg := h.blk.lt
  obtain ⟨n, D, EP, hn, hr⟩ := h.keys.upd hu hSk (fun k hk => (hS k hk).imp id .inr) hF2
  have hb := h.fr _ h.fk
  exact ⟨h.blk.upd hu (fun hs => (hS g hs).elim h.gF (fun h => by omega)), h.gb, hF1 _ h.fk, hF1 _ h.fj, fun k hk => ⟨(hF2 k hk).elim (fun h1 => (h.fr k h1).1) (fun h1 => by omega), hF3 k hk⟩, h.kj, fun hf => (hF2 g hf).elim h.gF (fun h => by omega), h.ids, hJ', ⟨n, D, EP, Nat.le_trans hn hN, hr⟩, hJ⟩
end
theorem Joins.apart {w w' : World} {base bj N : Nat} {F S : Nat → Prop} {J : List J2} (h : Joins w base F bj N J) (hu : Upd S w w') (hS : ∀ k, S k → ¬ F k) (hbj : F bj) : Joins w' base F bj N J := by
  obtain ⟨n, D, JL, hn, hm, hl, hr⟩ := h
  exact ⟨n, D, JL, hn, hm.upd hu (fun hs => hS _ hs hbj), hl, hr.upd hu (fun k hk id v hv hb => hS k hk ((hr.row id v hv).2 k hb)) (fun _ hf => hf)⟩
theorem zeroE (w : World) : (zeroValue 71).run Try.prog w = .ok (.agg #[.int .i64 0, .pointer none]) w := by kernel_rfl
/-- What is looked up of a key. -/
theorem look_all {bk n : Nat} {D : DataW Value} {EP : List EP2} {k : K3} (hl : Lk kkl kok D (em EP)) (hk : kok k) : ∃ lead p, (∀ w', Mp w' Try.prog 47 bk n D → (Instr.lookup 58 (.map (some bk)) (kval k) true).run Try.prog w' = .ok (.tuple #[.agg #[.int .i64 lead, .pointer p], .bool (entK (EP.map Prod.fst) k).isSome]) w') ∧
    ∀ e, entK (EP.map Prod.fst) k = some e → lead = e.id ∧ (e, p) ∈ EP := by
  have hat := hl.at_ kklit hk
  rw [lk_em] at hat
  rw [entK_em]
  cases hc : EP.find? (fun p => decide (p.1.k = k)) with
  | none =>
    rw [hc] at hat
    refine ⟨0, none, fun w' hm => ?_, fun e he => by simp at he⟩
    have := hm.look_none keyK Try.underlying58 (zeroE w') (kkey hk) hat true
    simpa using this
  | some q =>
    rw [hc] at hat
    refine ⟨q.1.id, q.2, fun w' hm => ?_, fun e he => ?_⟩
    · have := hm.look_some keyK Try.underlying58 (zeroE w') (kkey hk) hat true
      simpa [ev] using this
    · simp only [Option.map_some, Option.some.injEq] at he
      subst he
      exact ⟨rfl, List.mem_of_find?_eq_some hc⟩
theorem entK_none {E : List En} {k : K3} (h : entK E k = none) : ∀ e ∈ E, e.k ≠ k := by
  intro e he
  have := List.find?_eq_none.1 h e he
  simpa using this
theorem entK_some {E : List En} {k : K3} {e : En} (h : entK E k = some e) : e ∈ E ∧ e.k = k := by
  refine ⟨List.mem_of_find?_eq_some h, ?_⟩
  have := List.find?_some h
  simpa using this
/-- One more who leads. -/
theorem em_new {EP : List EP2} {k : K3} (id : Int) (h : entK (EP.map Prod.fst) k = none) : (lput (em EP) k (.agg #[.int .i64 id, .pointer none])).Perm (em (EP ++ [(⟨k, id, none⟩, none)])) := by
  have h1 : lwo (em EP) k = em EP := List.filter_eq_self.2 fun p hp => by
    obtain ⟨q, hq, rfl⟩ := List.mem_map.1 hp
    have := entK_none h q.1 (List.mem_map.2 ⟨q, hq, rfl⟩)
    simpa using this
  unfold lput
  rw [h1]
  have h2 : em (EP ++ [((⟨k, id, none⟩ : En), (none : Option Addr))]) = em EP ++ [(k, .agg #[.int .i64 id, .pointer none])] := by
    unfold em
    rw [List.map_append]
    rfl
  rw [h2]
  exact (List.perm_append_singleton _ _).symm
theorem infoI : (Try.prog.info? 3).map (fun i => (i.zero, i.size, i.bytes)) = some (some (.int .i64 0), 1, 8) := by kernel_rfl
theorem setL_app_same (J : List J2) (l id : Int) : setL (J ++ [(l, id)]) l = setL J l ++ [id] := by
  unfold setL
  rw [List.filter_append, List.map_append]
  simp
theorem setL_app_other (J : List J2) {l x : Int} (id : Int) (h : x ≠ l) : setL (J ++ [(l, id)]) x = setL J x := by
  unfold setL
  rw [List.filter_append, List.map_append]
  simp [Ne.symm h]
theorem nums_one (xs : List Int) : ∀ u ∈ nums xs, u.oneCell' = true := by
  intro u hu
  obtain ⟨x, _, rfl⟩ := List.mem_map.1 hu
  rfl
set_option maxHeartbeats 1000000 in
/-- One more who joins. -/
theorem CS.join {w : World} {base g bk bj N : Nat} {F : Nat → Prop} {E : List En} {J : List J2} (h : CS w base g bk bj F E J N) (hN : N < 1000) {lead : Int} (id : Int) (hlead : iok lead) :
    ∃ v v' w3 w4 F', (Instr.lookup 59 (.map (some bj)) (.int .i64 lead) false).run Try.prog w = .ok v w ∧ (Instr.lookup 59 (.map (some bj)) (.int .i64 lead) false).run Try.prog (w.alloc (.cells #[.int .i64 id] 3)) = .ok v (w.alloc (.cells #[.int .i64 id] 3)) ∧
      (Builtin.append_ #[49, 49] 49 #[v, .slice (some ⟨w.heap.size, 0, none⟩) 1 1]).run Try.prog (w.alloc (.cells #[.int .i64 id] 3)) = .ok v' w3 ∧ (Instr.mapUpdate 59 (.map (some bj)) (.int .i64 lead) v').run Try.prog w3 = .ok () w4 ∧
      Joins w4 base F' bj (N + 1) (J ++ [(lead, id)]) ∧ (∀ k, F k → F' k) ∧ (∀ k, F' k → F k ∨ w.heap.size ≤ k) ∧ (∀ k, F' k → k < w4.heap.size) ∧ Upd F w w3 ∧ Upd (fun k => F k ∧ k ≠ bk) w w4 := by
  obtain ⟨n, D, JL, hn, hm, hl, hr⟩ := h.joins
  have hat := hl.at_ iklit hlead
  have hu0 := (Upd.refl (fun _ => False) w).alloc (.cells #[.int .i64 id] 3)
  have hm0 := hm.upd0 hu0
  obtain ⟨i0, hj, hz0, hz1, hz2⟩ := info_parts infoI
  obtain ⟨v, hlook, hrow, hF⟩ : ∃ v, (∀ w', Mp w' Try.prog 3 bj n D → (Instr.lookup 59 (.map (some bj)) (.int .i64 lead) false).run Try.prog w' = .ok v w') ∧ w.ownsRow base 3 1 v (setL J lead).length (nums (setL J lead)) ∧ (v.ownBlock = none ∨ lk JL lead = some v) := by
    cases hc : lk JL lead with
    | none =>
      rw [hc] at hat
      refine ⟨.slice none 0 0, fun w' hm' => ?_, ?_, .inl rfl⟩
      · have := hm'.look_none keyI Try.underlying59 (zeroS w') (ikey hlead) hat false
        simpa using this
      · rw [hr.no lead hc]
        exact own_nil _ _ _ _
    | some v =>
      rw [hc] at hat
      refine ⟨v, fun w' hm' => ?_, (hr.row lead v hc).1, .inr rfl⟩
      have := hm'.look_some keyI Try.underlying59 (zeroS w') (ikey hlead) hat false
      simpa using this
  have hFv : ∀ k, v.ownBlock = some k → F k := fun k hk => by
    rcases hF with hF | hF
    · rw [hF] at hk; cases hk
    · exact (hr.row lead v hF).2 k hk
  have hbase : base ≤ w.heap.size := by have := h.fr _ h.fk; omega
  have hlen : (setL J lead).length ≤ 1000 := by have h1 := setL_len J lead; have h2 := h.jn; omega
  obtain ⟨v', w3, hrun, ho3, hg3, _, hat3⟩ := run_append_own_at (P := Try.prog) (w := w.alloc (.cells #[.int .i64 id] 3)) base 49 49 3 i0 (.int .i64 0) 1 8 Try.underlying49 hj hz0 hz1 hz2 rfl (by decide) v (setL J lead).length (nums (setL J lead)) (own_upd0 hrow hu0) ⟨w.heap.size, 0, none⟩ 1 1 [.int .i64 id] rfl (cell_one_new _ _ _) (by simp; rfl) (by unfold maxLen; omega) (by omega) (by simp; omega)
  have hu3 : Upd (fun k => v.ownBlock = some k) w w3 := (hu0.mono (fun _ h => h.elim)).trans (Upd.of_grown hg3) (fun i hi => .inl hi)
  have hvj : v.ownBlock ≠ some bj := hm.ne_own hrow
  have hvk : v.ownBlock ≠ some bk := by obtain ⟨_, _, _, _, hmk, _⟩ := h.keys; exact hmk.ne_own hrow
  have hm3 : Mp w3 Try.prog 3 bj n D := hm.upd hu3 hvj
  obtain ⟨w4, hput, hm4, ht4⟩ := World.ownsMap.store hm3 keyI Try.underlying59 (show n < maxLen by unfold maxLen; omega) (ikey hlead) (show hv v' = some (.held v', []) from rfl)
  have hu4 : Upd (At bj) w3 w4 := upd_turned ht4
  have hu04 : Upd (fun k => v.ownBlock = some k ∨ k = bj) w w4 := (hu3.mono (fun i hi => .inl (.inl hi))).trans hu4 (fun i hi => .inl (.inr hi))
  have hs3 := hu3.size
  have hs4 := hu4.size
  have hs0 : w.heap.size + 1 ≤ w3.heap.size := by have := hg3.size; simp at this; omega
  have hv' : ∀ k, v'.ownBlock = some k → v.ownBlock = some k ∨ w.heap.size ≤ k := fun k hk => by
    rcases hat3 with e | e
    · exact .inl (e ▸ hk)
    · rw [e] at hk; injection hk with hk; simp at hk; exact .inr (by omega)
  have ho4 : w4.ownsRow base 3 1 v' ((setL J lead).length + 1) (nums (setL J lead) ++ [.int .i64 id]) := own_upd ho3 hu4 (fun b hb hs => hm3.ne_own ho3 (by rw [hb, show b = bj from hs]))
  refine ⟨v, v', w3, w4, fun k => F k ∨ (w.heap.size ≤ k ∧ k < w4.heap.size), hlook w hm, hlook _ hm0, hrun, hput, ?_, (fun k hk => .inl hk), (fun k hk => hk.imp _root_.id And.left), (fun k hk => hk.elim (fun h1 => by have := (h.fr k h1).2; omega) And.right), hu3.mono (fun k hk => .inl (hFv k hk)), hu04.mono (fun k hk => .inl ⟨hk.elim (hFv k) (fun e => e ▸ h.fj), fun e => hk.elim (fun h1 => hvk (e ▸ h1)) (fun h1 => h.kj (e.symm.trans h1))⟩)⟩
  refine ⟨n + 1, _, lput JL lead v', by omega, hm4, hl.put iklit hlead v', ?_⟩
  have other : ∀ x v2, x ≠ lead → lk JL x = some v2 → ∀ b, v2.ownBlock = some b → v.ownBlock ≠ some b ∧ b < w.heap.size := fun x v2 hx hl2 b hb => by
    refine ⟨fun hvb => ?_, own_lt (hr.row x v2 hl2).1 hb⟩
    rcases hF with hF | hF
    · rw [hF] at hvb; cases hvb
    · exact hr.ne x lead v2 v b hl2 hF hx hb hvb
  refine ⟨fun x v2 hx => ?_, fun x hx => ?_, fun x y v2 v3 b hx hy hxy hb => ?_⟩
  · by_cases e : x = lead
    · subst e
      rw [lk_put_same] at hx
      injection hx with hx
      subst hx
      rw [setL_app_same, nums_app, List.length_append]
      refine ⟨ho4, fun b hb => ?_⟩
      rcases hv' b hb with h1 | h1
      · exact .inl (hFv b h1)
      · exact .inr ⟨h1, own_lt ho4 hb⟩
    · rw [lk_put_other _ e] at hx
      rw [setL_app_other J id e]
      obtain ⟨r1, r2⟩ := hr.row x v2 hx
      refine ⟨own_upd r1 hu04 (fun b hb hs => ?_), fun b hb => .inl (r2 b hb)⟩
      rcases hs with hs | hs
      · exact (other x v2 e hx b hb).1 hs
      · rw [hs] at hb; exact hm.ne_own r1 hb
  · by_cases e : x = lead
    · subst e
      rw [lk_put_same] at hx
      cases hx
    · rw [lk_put_other _ e] at hx
      rw [setL_app_other J id e]
      exact hr.no x hx
  · by_cases e : x = lead
    · subst e
      rw [lk_put_same] at hx
      injection hx with hx
      subst hx
      rw [lk_put_other _ (Ne.symm hxy)] at hy
      intro hb2
      have h1 := other y v3 (Ne.symm hxy) hy b hb2
      rcases hv' b hb with h2 | h2
      · exact h1.1 h2
      · omega
    · rw [lk_put_other _ e] at hx
      by_cases e2 : y = lead
      · subst e2
        rw [lk_put_same] at hy
        injection hy with hy
        subst hy
        intro hb2
        have h1 := other x v2 e hx b hb
        rcases hv' b hb2 with h2 | h2
        · exact h1.1 h2
        · omega
      · rw [lk_put_other _ e2] at hy
        exact hr.ne x y v2 v3 b hx hy hxy hb
end Go.Proofs.Ytninaaolbgchpaa
