/- The document's window, by the state that it tells. -/
import Derived.Test.YtnpecnljibeddaaRc
import Derived.Test.YtnpecnljibeddaaCb
namespace Go.Proofs.Ytnpecnljibeddaa
open Go.RowKit
set_option linter.unusedVariables false
set_option linter.unusedSimpArgs false

def rcs (s : CSt) : BT := match s with | none => ([], []) | some (b, _) => b
/-- The document's window is s. -/
structure RIs (w : World) (F : Nat → Prop) (s : CSt) (e : Int) (A : Option Addr) (n c : Nat) (M : Option Addr) (m d : Nat) : Prop where
  ka : Kp w F A n c (nums (rcs s).1)
  km : Kp w F M m d (prs (rcs s).2)
  en : ∀ b e', s = some (b, e') → e = e'
  ln : (rcs s).1.length = n
  lm : (rcs s).2.length = m
theorem RIs.step {w w' : World} {F F' S : Nat → Prop} {s : CSt} {e : Int} {A M : Option Addr} {n c m d : Nat} (h : RIs w F s e A n c M m d) (hu : Upd S w w') (hs : ∀ k, S k → F k ∨ w.heap.size ≤ k) (hF : ∀ k, F' k → F k ∨ w.heap.size ≤ k) : RIs w' F' s e A n c M m d :=
  ⟨h.ka.step hu hs hF, h.km.step hu hs hF, h.en, h.ln, h.lm⟩
theorem RIs.zero (w : World) (F : Nat → Prop) (e : Int) : RIs w F none e none 0 0 none 0 0 := ⟨Kp.zero w F, Kp.zero w F, (fun b e' h => by cases h), rfl, rfl⟩
theorem Kp.fresh {w w' : World} {F : Nat → Prop} {A : Option Addr} {n c : Nat} {cs : List Value} (h : Sl w' A n c cs) (hn : ∀ b o, A = some ⟨b, o, none⟩ → w.heap.size ≤ b) (hlt : ∀ k, F k → k < w.heap.size) : Kp w' F A n c cs :=
  Kp.of_new h (fun b o e hF => by have := hn b o e; have := hlt b hF; omega)
theorem Kp.rnew {w w' : World} {F : Nat → Prop} {A A' M M' : Option Addr} {n c n' c' m d m' d' : Nat} {xs xs' : List Int} {ms ms' : List (Int × Int)} (ha : Kp w F A n c (nums xs)) (hm : Kp w F M m d (prs ms)) (ha' : Sl w' A' n' c' (nums xs')) (hm' : Sl w' M' m' d' (prs ms')) (hr : RNew w A' M' A M xs' xs ms' ms) (hlt : ∀ k, F k → k < w.heap.size) : Kp w' F A' n' c' (nums xs') ∧ Kp w' F M' m' d' (prs ms') := by
  rcases hr with ⟨rfl, rfl, rfl, rfl⟩ | ⟨h1, h2⟩
  · exact ⟨⟨ha', ha.off⟩, ⟨hm', hm.off⟩⟩
  · exact ⟨Kp.fresh ha' h1 hlt, Kp.fresh hm' h2 hlt⟩

theorem radd14_to {w : World} {F : Nat → Prop} {A M : Option Addr} {n c m d nb mb : Nat} {win most now id arg due e : Int} {s s' : CSt} {op rd : Bool} {b : BT} (hadd : cadd win most s now id arg = (s', op, rd, due, b)) (hnb : b.1.length = nb) (hmb : b.2.length = mb) (hw : W64 win) (hnow : s = none → W64 now) (h1 : cmem s ≤ 900) (h2 : cargs s ≤ 900) (h : RIs w F s e A n c M m d) (hlt : ∀ k, F k → k < w.heap.size) :
    Calls Try.prog 14 #[.agg #[.int .u64 win, .int .i64 most, .bool s.isSome, .int .u64 e, .slice A n c, .slice M m d], .int .u64 now, .int .i64 id, .int .i64 arg] w fun e_ w' => ∃ e' A' n' c' M' m' d' X cx Y dy,
      e_ = .returned (.tuple #[.agg #[.int .u64 win, .int .i64 most, .bool s'.isSome, .int .u64 e', .slice A' n' c', .slice M' m' d'], .agg #[.bool op, .bool rd, .int .u64 due, .slice X nb cx, .slice Y mb dy]]) ∧ RIs w' F s' e' A' n' c' M' m' d' ∧ Kp w' F X nb cx (nums b.1) ∧ Kp w' F Y mb dy (prs b.2) ∧ Below w.heap.size w w' := by
  subst hnb hmb
  cases s with
  | none =>
    unfold cadd cput at hadd
    simp only at hadd
    by_cases hr : most ≤ ((([arg], [(id, 0)]) : BT).1.length : Int)
    · rw [if_pos hr] at hadd
      simp only [Prod.mk.injEq] at hadd
      obtain ⟨rfl, rfl, rfl, rfl, rfl⟩ := hadd
      refine (radd_new_ready hr hw (hnow rfl) rfl w).mono ?_
      rintro e_ w' ⟨A2, c2, M2, d2, rfl, hA, hM, hna, hnm, hd⟩
      exact ⟨_, none, 0, 0, none, 0, 0, A2, c2, M2, d2, rfl, RIs.zero _ _ _, Kp.fresh hA hna hlt, Kp.fresh hM hnm hlt, hd⟩
    · rw [if_neg hr] at hadd
      simp only [Prod.mk.injEq] at hadd
      obtain ⟨rfl, rfl, rfl, rfl, rfl⟩ := hadd
      refine (radd_new_more hr hw (hnow rfl) rfl w).mono ?_
      rintro e_ w' ⟨A2, c2, M2, d2, rfl, hA, hM, hna, hnm, hd⟩
      exact ⟨_, A2, 1, c2, M2, 1, d2, none, 0, none, 0, rfl, ⟨Kp.fresh hA hna hlt, Kp.fresh hM hnm hlt, (fun b e' h => by injection h with h; injection h), rfl, rfl⟩, Kp.zero _ _, Kp.zero _ _, hd⟩
  | some be =>
    obtain ⟨⟨xs, ms⟩, e0⟩ := be
    obtain ⟨ka, km, hen, hln, hlm⟩ := h
    have hee := hen _ _ rfl
    subst hee
    simp only [rcs] at ka km hln hlm
    have h1' : m ≤ 900 := by rw [← hlm]; exact h1
    have h2' : n ≤ 900 := by rw [← hln]; exact h2
    obtain ⟨xs', ms', ok, hbb⟩ : ∃ a b c, badd xs ms id arg most = (a, b, c) := ⟨_, _, _, rfl⟩
    unfold cadd cput at hadd
    simp only [hbb] at hadd
    by_cases hr : most ≤ ((xs'.length : Nat) : Int)
    · rw [if_pos hr] at hadd
      simp only [Prod.mk.injEq] at hadd
      obtain ⟨rfl, rfl, rfl, rfl, rfl⟩ := hadd
      refine (radd_old_ready hr hbb hln hlm rfl rfl h2' h1' w ka.sl km.sl).mono ?_
      rintro e_ w' ⟨A2, c2, M2, d2, rfl, hA, hM, hnw, hd⟩
      have hk := Kp.rnew ka km hA hM hnw hlt
      exact ⟨_, none, 0, 0, none, 0, 0, A2, c2, M2, d2, rfl, RIs.zero _ _ _, hk.1, hk.2, hd⟩
    · rw [if_neg hr] at hadd
      simp only [Prod.mk.injEq] at hadd
      obtain ⟨rfl, rfl, rfl, rfl, rfl⟩ := hadd
      refine (radd_old_more hr hbb hln hlm rfl rfl h2' h1' w ka.sl km.sl).mono ?_
      rintro e_ w' ⟨A2, c2, M2, d2, rfl, hA, hM, hnw, hd⟩
      have hk := Kp.rnew ka km hA hM hnw hlt
      exact ⟨_, A2, _, c2, M2, _, d2, none, 0, none, 0, rfl, ⟨hk.1, hk.2, (fun b e' h => by injection h with h; injection h), rfl, rfl⟩, Kp.zero _ _, Kp.zero _ _, hd⟩

theorem rexp14_to {w : World} {F : Nat → Prop} {A M : Option Addr} {n c m d nb mb : Nat} {win most now e : Int} {s s' : CSt} {is : Bool} {b : BT} (hexp : cexp s now = (s', b, is)) (hnb : b.1.length = nb) (hmb : b.2.length = mb) (h : RIs w F s e A n c M m d) :
    Calls Try.prog 18 #[.agg #[.int .u64 win, .int .i64 most, .bool s.isSome, .int .u64 e, .slice A n c, .slice M m d], .int .u64 now] w fun e_ w' => ∃ e' A' n' c' M' m' d' X cx Y dy,
      e_ = .returned (.tuple #[.agg #[.int .u64 win, .int .i64 most, .bool s'.isSome, .int .u64 e', .slice A' n' c', .slice M' m' d'], .agg #[.slice X nb cx, .slice Y mb dy], .bool is]) ∧ RIs w' F s' e' A' n' c' M' m' d' ∧ Kp w' F X nb cx (nums b.1) ∧ Kp w' F Y mb dy (prs b.2) ∧ Below w.heap.size w w' := by
  subst hnb hmb
  cases s with
  | none =>
    unfold cexp at hexp
    simp only [Prod.mk.injEq] at hexp
    obtain ⟨rfl, rfl, rfl⟩ := hexp
    refine (rexp_none w).mono ?_
    rintro e_ w' ⟨rfl, hd⟩
    have hu := Upd.of_below hd (fun _ => False)
    exact ⟨_, A, n, c, M, m, d, none, 0, none, 0, rfl, h.step hu (fun _ h => h.elim) (fun _ h => .inl h), Kp.zero _ _, Kp.zero _ _, hd⟩
  | some be =>
    obtain ⟨⟨xs, ms⟩, e0⟩ := be
    have hee := h.en _ _ rfl
    subst hee
    unfold cexp at hexp
    simp only at hexp
    by_cases hr : now < e
    · rw [if_pos hr] at hexp
      simp only [Prod.mk.injEq] at hexp
      obtain ⟨rfl, rfl, rfl⟩ := hexp
      refine (rexp_early hr w).mono ?_
      rintro e_ w' ⟨rfl, hd⟩
      have hu := Upd.of_below hd (fun _ => False)
      exact ⟨_, A, n, c, M, m, d, none, 0, none, 0, rfl, h.step hu (fun _ h => h.elim) (fun _ h => .inl h), Kp.zero _ _, Kp.zero _ _, hd⟩
    · rw [if_neg hr] at hexp
      simp only [Prod.mk.injEq] at hexp
      obtain ⟨rfl, rfl, rfl⟩ := hexp
      refine (rexp_over hr w).mono ?_
      rintro e_ w' ⟨rfl, hd⟩
      obtain ⟨ka, km, hen, hln, hlm⟩ := h
      simp only [rcs] at ka km hln hlm
      subst hln hlm
      exact ⟨_, none, 0, 0, none, 0, 0, A, c, M, d, rfl, RIs.zero _ _ _, ka.keep0 (Upd.of_below hd (fun _ => False)), km.keep0 (Upd.of_below hd (fun _ => False)), hd⟩
end Go.Proofs.Ytnpecnljibeddaa
