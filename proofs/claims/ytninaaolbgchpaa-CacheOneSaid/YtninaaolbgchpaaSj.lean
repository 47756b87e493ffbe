/- Who joined is told, and forgotten. -/
import Derived.Test.YtninaaolbgchpaaCl
namespace Go.Proofs.Ytninaaolbgchpaa
open Go.RowKit
open Go.Maps (Keyed IsMap Tidy)
set_option linter.unusedVariables false
set_option linter.unusedSimpArgs false

theorem zeroS (w : World) : (zeroValue 49).run Try.prog w = .ok (.slice none 0 0) w := by kernel_rfl
theorem setL_same (J : List J2) (id : Int) : setL (setJ J id) id = [] := by
  unfold setL setJ
  rw [List.filter_filter, List.filter_eq_nil_iff.2 (fun p _ => by simp)]
  rfl
theorem setL_other (J : List J2) {id x : Int} (h : x ≠ id) : setL (setJ J id) x = setL J x := by
  unfold setL setJ
  rw [List.filter_filter]
  congr 1
  refine List.filter_congr fun p _ => ?_
  by_cases hp : p.1 = x
  · simp [hp, h]
  · simp [hp]
theorem setJ_len (J : List J2) (id : Int) : (setJ J id).length ≤ J.length := List.length_filter_le _ _
theorem setL_len (J : List J2) (id : Int) : (setL J id).length ≤ J.length := by
  unfold setL
  rw [List.length_map]
  exact List.length_filter_le _ _
theorem CS.settle {w : World} {base g bk bj N : Nat} {F : Nat → Prop} {E : List En} {J : List J2} (h : CS w base g bk bj F E J N) {id : Int} (hid : iok id) (ty : TypeId) :
    ∃ A c F' w', (Instr.lookup 59 (.map (some bj)) (.int .i64 id) false).run Try.prog w = .ok (.slice A (setL J id).length c) w ∧ (Builtin.delete_ #[59, 3] ty #[.map (some bj), .int .i64 id]).run Try.prog w = .ok (.tuple #[]) w' ∧
      Sl w' A (setL J id).length c (nums (setL J id)) ∧ (∀ b o, A = some ⟨b, o, none⟩ → ¬ F' b) ∧ (∀ k, F' k → F k) ∧ CS w' base g bk bj F' E (setJ J id) N ∧ Upd (At bj) w w' := by
  obtain ⟨n, D, JL, hn, hm, hl, hr⟩ := h.joins
  have hat := hl.at_ iklit hid
  obtain ⟨w', hdel, hm', ht'⟩ := World.ownsMap.drop hm keyI Try.underlying59 (ikey hid) ty
  have hu := upd_turned ht'
  obtain ⟨v, A, c, hv, hlook, hsl, hrow⟩ : ∃ v A c, v = .slice A (setL J id).length c ∧ (Instr.lookup 59 (.map (some bj)) (.int .i64 id) false).run Try.prog w = .ok v w ∧ Sl w A (setL J id).length c (nums (setL J id)) ∧ (v.ownBlock = none ∨ lk JL id = some v) := by
    cases hc : lk JL id with
    | none =>
      rw [hc] at hat
      have := hm.look_none keyI Try.underlying59 (zeroS w) (ikey hid) hat false
      have h0 := hr.no id hc
      refine ⟨.slice none 0 0, none, 0, by rw [h0]; rfl, by simpa using this, by rw [h0]; exact Sl.zero w, .inl rfl⟩
    | some v =>
      rw [hc] at hat
      have := hm.look_some keyI Try.underlying59 (zeroS w) (ikey hid) hat false
      obtain ⟨A, c, hv, hs, _⟩ := Sl.of_own (hr.row id v hc).1
      exact ⟨v, A, c, hv, by simpa using this, hs, .inr rfl⟩
  have hob : ∀ b o, A = some ⟨b, o, none⟩ → v.ownBlock = some b := by
    intro b o he
    rcases hrow with hno | hrow
    · rw [hv, he] at hno
      simp [Value.ownBlock] at hno
    · rcases (hr.row id v hrow).1.2 with ⟨e, _⟩ | ⟨g', cap, cur, e, _⟩
      · rw [hv, he] at e; cases e
      · rw [hv, he] at e
        injection e with e1 e2 e3
        injection e1 with e1
        injection e1 with e1 e4
        rw [hv, he, e1]
        simp [Value.ownBlock, e4]
  have hnk : v.ownBlock ≠ some bk := by
    rcases hrow with hno | hrow
    · rw [hno]; simp
    · obtain ⟨_, _, _, _, hmk, _⟩ := h.keys
      exact hmk.ne_own (hr.row id v hrow).1
  have hnj : v.ownBlock ≠ some bj := by
    rcases hrow with hno | hrow
    · rw [hno]; simp
    · exact hm.ne_own (hr.row id v hrow).1
  refine ⟨A, c, fun k => F k ∧ v.ownBlock ≠ some k, w', by rw [← hv]; exact hlook, hdel, hsl.upd hu (fun b o he hb => ?_), (fun b o he hf => hf.2 (hob b o he)), (fun k hk => hk.1), ?_, hu⟩
  · have hbj : b = bj := hb
    subst hbj
    exact hnj (hob _ o he)
  · have hgb : g ≠ bj := fun e => h.gF (e ▸ h.fj)
    refine ⟨h.blk.upd hu hgb, h.gb, ⟨h.fk, hnk⟩, ⟨h.fj, hnj⟩, fun k hk => ⟨(h.fr k hk.1).1, Nat.lt_of_lt_of_le (h.fr k hk.1).2 hu.size⟩, h.kj, fun hk => h.gF hk.1, h.ids, Nat.le_trans (setJ_len J id) h.jn, h.keys.upd hu h.kj (fun k hk => .inl (by rw [show k = bj from hk]; exact h.fj)) (fun _ hk => .inl hk.1), ⟨n, _, lwo JL id, hn, hm', hl.del iklit hid, ?_⟩⟩
    have hwo : ∀ x v', lk (lwo JL id) x = some v' → x ≠ id ∧ lk JL x = some v' := fun x v' hx => by
      by_cases e : x = id
      · subst e; rw [lk_wo_same] at hx; cases hx
      · exact ⟨e, by rwa [lk_wo_other e] at hx⟩
    refine ⟨fun x v' hx => ?_, fun x hx => ?_, fun x y v' v'' b hx hy => hr.ne x y v' v'' b (hwo _ _ hx).2 (hwo _ _ hy).2⟩
    · obtain ⟨hne, hx'⟩ := hwo _ _ hx
      obtain ⟨r1, r2⟩ := hr.row x v' hx'
      rw [setL_other J hne]
      refine ⟨own_upd r1 hu (fun b hb hs => ?_), fun b hb => ⟨r2 b hb, ?_⟩⟩
      · rw [show b = bj from hs] at hb
        exact hm.ne_own r1 hb
      · rcases hrow with hno | hrow
        · rw [hno]; simp
        · exact hr.ne x id v' v b hx' hrow hne hb
    · by_cases e : x = id
      · subst e; exact setL_same J x
      · rw [lk_wo_other e] at hx
        rw [setL_other J e]
        exact hr.no x hx
end Go.Proofs.Ytninaaolbgchpaa
