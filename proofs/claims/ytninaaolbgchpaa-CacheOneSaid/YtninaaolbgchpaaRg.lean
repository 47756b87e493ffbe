/- A store at a key that is there, in a loop over the map. -/
import Derived.Test.YtninaaolbgchpaaMk
import Derived.Maps.RangeWalk
namespace Go.Proofs.Ytninaaolbgchpaa
open Go Go.RowKit Go.ChangeMaps Go.MapKept Go.WideShapes
open Go.WideElems (Fit rd rg pl rd_key rd_val rg_of rd_mk other_key)
open Go.Maps (Keyed IsMap Tidy)
set_option linter.unusedVariables false
set_option linter.unusedSimpArgs false

theorem left_size (a : Array MapEntry) (seen : Array Nat) : (leftOf a seen).size = (a.toList.filter fun e => !seen.contains e.born).length := by
  unfold leftOf
  rw [← Array.toList_filter, Array.length_toList]
theorem filter_set_len {α : Type} (p : α → Bool) : ∀ (l : List α) (j : Nat) (x y : α), l[j]? = some x → p x = p y → ((l.set j y).filter p).length = (l.filter p).length
  | [], j, x, y, h, _ => by simp at h
  | a :: l, 0, x, y, h, hp => by
    simp at h
    subst h
    simp only [List.set_cons_zero, List.filter_cons, hp]
    split <;> rfl
  | a :: l, j + 1, x, y, h, hp => by
    have := filter_set_len p l j x y (by simpa using h) hp
    simp only [List.set_cons_succ, List.filter_cons]
    split <;> simp [this]
theorem ranges_store {H : Type} {P : Program} {k : TypeId} {R : Value → Option (DataW H × List MemPlace)} {w : World} {b r n : Nat} {D : DataW H} {left : Lit → Bool} {cnt : Nat} {t e : TypeId}
    (h : w.ranges P k R b r n D left cnt) (K : Keyed P k) (ht : P.underlying t = some (.map k e)) (hn : n < maxLen) {key val : Value} {kl : Lit} {d : DataW H} {ps : List MemPlace} (hkey : keyOf P k key = some kl) (hv : R val = some (d, ps)) (hin : Maps.has D kl = true) :
    ∃ w', (Instr.mapUpdate t (.map (some b)) key val).run P w = .ok () w' ∧ w'.ranges P k R b r n (D.put kl d) left cnt ∧ w.mapTurned w' b := by
  have hne := h.ne
  obtain ⟨es, clock, since, seen, c0, hb, F, hs, rfl, hr, hold, rfl, hl1, hl2, hsc, hsk⟩ := h
  obtain ⟨x0, hx0, hx0k⟩ : ∃ x ∈ es.toList, x.key = key := by
    obtain ⟨p, hp, hpk⟩ := List.any_eq_true.1 hin
    obtain ⟨x, hx, rfl⟩ := List.mem_map.1 (mem_sorted.1 hp)
    obtain ⟨y, hy⟩ := F.reads x hx
    have e1 := WideAt.sameKey_eq hpk
    refine ⟨x, hx, ?_⟩
    rw [rg_of hy] at e1
    exact K.inj (e1 ▸ rd_key hy) hkey
  rcases K.find w hkey es.toList F.keys with ⟨h1, h2⟩ | ⟨j, e0, h1, h2, h3⟩
  · exact absurd hx0k (h2 x0 hx0)
  · have hj : es[j]? = some e0 := by simpa using h2
    have hjl : j < es.toList.length := (List.getElem?_eq_some_iff.1 h2).1
    obtain ⟨es', clock', hrun, F', hput, _⟩ := Maps.fit_store (R' := R) K ht hb F (Nat.lt_of_le_of_lt hs hn) (fun _ _ _ _ hz => hz) hkey hv
    have hrun2 : (Instr.mapUpdate t (.map (some b)) key val).run P w = .ok () (setBlock w b (.map (es.modify j (fun e' => { e' with key := key, val := val })) clock)) := by
      simp [Instr.mapUpdate, run_underlying ht, MapKept.run_getObj_map hb, K.check w false hkey, h1, hj, h3, K.stays w hkey, MapKept.run_setObj_map _ hb, Result.andThen, setBlock]
    have heq : es' = es.modify j (fun e' => { e' with key := key, val := val }) ∧ clock' = clock := by
      rw [hrun] at hrun2
      injection hrun2 with _ hw
      have h5 := heap_setBlock_same hb (.map es' clock')
      rw [hw, heap_setBlock_same hb] at h5
      injection h5 with h5
      injection h5 with h5 h6
      exact ⟨h5.symm, h6.symm⟩
    obtain ⟨rfl, rfl⟩ := heq
    have hlist : (es.modify j (fun e' => { e' with key := key, val := val })).toList = es.toList.set j { e0 with key := key, val := val } := by rw [Array.toList_modify, modify_eq_set _ _ _ _ h2]
    have e0m : e0 ∈ es.toList := List.mem_of_getElem? h2
    have rg0 : (rg P k R e0).1 = kl := by
      obtain ⟨y, hy⟩ := F.reads e0 e0m
      have m1 := rd_key hy
      rw [h3, hkey] at m1
      rw [rg_of hy]
      exact (Option.some.inj m1).symm
    have rg1 : (rg P k R ({ e0 with key := key, val := val } : MapEntry)).1 = kl := by
      have := rd_mk (P := P) (k := k) (R := R) (born := e0.born) hkey hv
      rw [rg_of this]
    refine ⟨_, hrun, ⟨_, _, since, seen, c0, heap_setBlock_same hb _, F', by simpa using hs, by rw [DataW.put_eq, hput], (heap_setBlock_other hb _ hne).trans hr, fun x hx => ?_, ?_, fun x hx => ?_, fun z hz => ?_, hsc, hsk⟩, ⟨es, _, _, _, hb, rfl⟩⟩
    · rw [hlist] at hx
      rcases List.mem_or_eq_of_mem_set hx with hx | rfl
      · exact hold x hx
      · exact hold e0 e0m
    · rw [left_size, left_size, hlist]
      exact filter_set_len _ _ _ _ _ h2 rfl
    · rw [hlist] at hx
      rcases List.mem_or_eq_of_mem_set hx with hx | rfl
      · exact hl1 x hx
      · rw [rg1, ← rg0]
        exact hl1 e0 e0m
    · obtain ⟨x, hx, rfl⟩ := hl2 z hz
      rw [hlist]
      obtain ⟨i, hi⟩ := List.getElem?_of_mem hx
      by_cases hij : i = j
      · subst hij
        rw [h2] at hi
        injection hi with hi
        subst hi
        exact ⟨_, List.mem_set hjl _, by rw [rg1, rg0]⟩
      · refine ⟨x, List.mem_of_getElem? (i := i) ?_, rfl⟩
        rw [List.getElem?_set_ne (Ne.symm hij)]
        exact hi
/-- What is put at a key that is there. -/
theorem lput_perm {κ : Type} [DecidableEq κ] : ∀ {l : List (κ × Value)} {x : κ} (v : Value), (l.map Prod.fst).Nodup → x ∈ l.map Prod.fst → (lput l x v).Perm (l.map fun p => if p.1 = x then (x, v) else p)
  | [], x, v, _, h => by simp at h
  | p :: l, x, v, hn, hm => by
    simp only [List.map_cons, List.nodup_cons] at hn
    by_cases hp : p.1 = x
    · have h1 : lwo (p :: l) x = lwo l x := by unfold lwo; rw [List.filter_cons_of_neg (by simp [hp])]
      have hno : ∀ q ∈ l, q.1 ≠ x := fun q hq e => hn.1 (hp ▸ List.mem_map.2 ⟨q, hq, e⟩)
      have h2 : lwo l x = l := List.filter_eq_self.2 fun q hq => by simp [hno q hq]
      have h3 : (l.map fun p => if p.1 = x then (x, v) else p) = l := by
        conv => rhs; rw [← List.map_id l]
        exact List.map_congr_left fun q hq => by simp [hno q hq]
      unfold lput
      rw [h1, h2, List.map_cons, if_pos hp, h3]
    · have hm' : x ∈ l.map Prod.fst := by
        rcases List.mem_cons.1 (by simpa using hm : x ∈ p.1 :: l.map Prod.fst) with h | h
        · exact absurd h.symm hp
        · exact h
      have h1 : lput (p :: l) x v = (x, v) :: p :: lwo l x := by unfold lput lwo; rw [List.filter_cons_of_pos (by simp [hp])]
      rw [h1, List.map_cons, if_neg hp]
      exact (List.Perm.swap _ _ _).trans ((lput_perm v hn.2 hm').cons p)
end Go.Proofs.Ytninaaolbgchpaa
