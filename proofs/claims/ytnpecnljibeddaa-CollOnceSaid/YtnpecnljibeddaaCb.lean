/- A window's Add and Expire. -/
import Derived.Test.YtnpecnljibeddaaCa
import Derived.Test.YtnpecnljibeddaaCe
namespace Go.Proofs.Ytnpecnljibeddaa
open Go.RowKit
set_option linter.unusedVariables false
set_option linter.unusedSimpArgs false

/-- What a window's Add, or Expire, leaves behind. -/
structure CPost (w w' : World) (F : Nat → Prop) (g : Nat) (p p' : Option Nat) (win most : Int) (s' : CSt) (A M : Option Addr) (n c m d : Nat) (b : BT) : Prop where
  isC : IsC w' (fun k => F k ∨ p' = some k) g p' win most s'
  ka : Kp w' (fun k => F k ∨ p' = some k) A n c (nums b.1)
  km : Kp w' (fun k => F k ∨ p' = some k) M m d (prs b.2)
  pn : ∀ k, p' = some k → p = some k ∨ w.heap.size ≤ k
  upd : Upd (Fr2 g p) w w'
theorem nums_ne {xs : List Int} (h : 0 < xs.length) : nums xs ≠ [] := fun e => by
  have := nums_len xs
  rw [e] at this
  simp only [List.length_nil] at this
  omega
theorem prs_ne {xs : List (Int × Int)} (h : 0 < xs.length) : prs xs ≠ [] := fun e => by
  have := prs_len xs
  rw [e] at this
  simp only [List.length_nil] at this
  omega
theorem At_Fr2 {g : Nat} {p : Option Nat} : ∀ k, At g k → Fr2 g p k := fun k h => .inl h

theorem cadd_to {w : World} {F : Nat → Prop} {g : Nat} {p : Option Nat} {win most now id arg due : Int} {s s' : CSt} {op rd : Bool} {b : BT} {n m : Nat} (hadd : cadd win most s now id arg = (s', op, rd, due, b)) (hn : b.1.length = n) (hm : b.2.length = m) (hw : W64 win) (hnow : s = none → W64 now) (h1 : cmem s ≤ 900) (h2 : cargs s ≤ 900) (h : IsC w F g p win most s) :
    Calls Try.prog 13 #[.pointer (some ⟨g, 0, none⟩), .int .u64 now, .int .i64 id, .int .i64 arg] w fun e w' => ∃ p' A c M d,
      e = .returned (.agg #[.bool op, .bool rd, .int .u64 due, .slice A n c, .slice M m d]) ∧ CPost w w' F g p p' win most s' A M n c m d b := by
  subst hn hm
  have hfr := h.fr
  cases s with
  | none =>
    obtain ⟨rfl, hb⟩ := h.st
    unfold cadd cput at hadd
    simp only at hadd
    by_cases hr : most ≤ ((([arg], [(id, 0)]) : BT).1.length : Int)
    · rw [if_pos hr] at hadd
      simp only [Prod.mk.injEq] at hadd
      obtain ⟨rfl, rfl, rfl, rfl, rfl⟩ := hadd
      refine (cadd_new_ready hr hw (hnow rfl) rfl w hb).mono ?_
      rintro e w' ⟨o, A, c, M, d, ho, rfl, hB, hA, hM, hAn, hMn, hU⟩
      refine ⟨none, A, c, M, d, rfl, ⟨⟨fun k hk => ?_, .inl h.own, (fun k hk => by cases hk), ⟨rfl, hB⟩⟩, Kp.of_new hA (fun b k e hF => ?_), Kp.of_new hM (fun b k e hF => ?_), (fun k hk => by cases hk), hU.mono (fun k hk => .inl (At_Fr2 k hk))⟩⟩
      · rcases hk with hk | hk
        · exact Nat.lt_of_lt_of_le (h.lt k hk) hU.size
        · cases hk
      · rcases hF with hF | hF
        · have := h.lt b hF; have := (hAn b k e).1; omega
        · cases hF
      · rcases hF with hF | hF
        · have := h.lt b hF; have := (hMn b k e).1; omega
        · cases hF
    · rw [if_neg hr] at hadd
      simp only [Prod.mk.injEq] at hadd
      obtain ⟨rfl, rfl, rfl, rfl, rfl⟩ := hadd
      refine (cadd_new_more hr hw (hnow rfl) rfl w hb).mono ?_
      rintro e w' ⟨o, A, c, M, d, ho, rfl, hB, hO, hA, hM, hAn, hMn, hU⟩
      have kA : Kp w' (fun k => F k ∨ some o = some k) A 1 c (nums [arg]) := Kp.of_new hA (fun b k e hF => by
        rcases hF with hF | hF
        · have := h.lt b hF; have := (hAn b k e).1; omega
        · injection hF with hF; exact (hAn b k e).2 hF.symm)
      have kM : Kp w' (fun k => F k ∨ some o = some k) M 1 d (prs [(id, 0)]) := Kp.of_new hM (fun b k e hF => by
        rcases hF with hF | hF
        · have := h.lt b hF; have := (hMn b k e).1; omega
        · injection hF with hF; exact (hMn b k e).2 hF.symm)
      refine ⟨some o, none, 0, none, 0, rfl, ⟨⟨fun k hk => ?_, .inl h.own, fun k hk => .inr hk, ⟨o, A, c, M, d, rfl, by simp, by simp, hB, hO, kA, kM⟩⟩, Kp.zero _ _, Kp.zero _ _, (fun k hk => by injection hk with hk; exact .inr (hk ▸ ho)), hU.mono (fun k hk => .inl (At_Fr2 k hk))⟩⟩
      rcases hk with hk | hk
      · exact Nat.lt_of_lt_of_le (h.lt k hk) hU.size
      · injection hk with hk
        exact hk ▸ hO.lt
  | some be =>
    obtain ⟨⟨xs, ms⟩, e0⟩ := be
    obtain ⟨o, A, c, M, d, rfl, p1, p2, hB, hO, k1, k2⟩ := h.st
    simp only at p1 p2 hO k1 k2
    obtain ⟨xs', ms', ok, hbb⟩ : ∃ a b c, badd xs ms id arg most = (a, b, c) := ⟨_, _, _, rfl⟩
    unfold cadd cput at hadd
    simp only [hbb] at hadd
    have ha1 := k1.apart (by rw [nums_len]; exact p1)
    have hm1 := k2.apart (by rw [prs_len]; omega)
    have og : F o := h.opn o rfl
    have hx0 : 0 < xs'.length ∧ 0 < ms'.length := by
      unfold badd at hbb
      split at hbb
      · simp only [Prod.mk.injEq] at hbb
        obtain ⟨rfl, rfl, _⟩ := hbb
        exact ⟨p1, by simp⟩
      · split at hbb
        · simp only [Prod.mk.injEq] at hbb
          obtain ⟨rfl, rfl, _⟩ := hbb
          exact ⟨p1, p2⟩
        · simp only [Prod.mk.injEq] at hbb
          obtain ⟨rfl, rfl, _⟩ := hbb
          simp
    have hA2 : ∀ b k, A = some ⟨b, k, none⟩ → b < w.heap.size ∧ b ≠ g ∧ b ≠ o := fun b k e => ⟨(ha1 b k e).1, fun hh => (ha1 b k e).2 (hh ▸ h.own), fun hh => (ha1 b k e).2 (hh ▸ og)⟩
    have hM2 : ∀ b k, M = some ⟨b, k, none⟩ → b < w.heap.size ∧ b ≠ g ∧ b ≠ o := fun b k e => ⟨(hm1 b k e).1, fun hh => (hm1 b k e).2 (hh ▸ h.own), fun hh => (hm1 b k e).2 (hh ▸ og)⟩
    have eF : ∀ k, (F k ∨ some o = some k) → F k := fun k hk => hk.elim (fun x => x) (fun hk => by injection hk with hk; exact hk ▸ og)
    by_cases hr : most ≤ ((xs'.length : Nat) : Int)
    · rw [if_pos hr] at hadd
      simp only [Prod.mk.injEq] at hadd
      obtain ⟨rfl, rfl, rfl, rfl, rfl⟩ := hadd
      refine (cadd_old_ready hr hbb rfl rfl rfl rfl h2 h1 w hB hO k1.sl k2.sl hA2 hM2).mono ?_
      rintro e w' ⟨A', c', M', d', rfl, hB', hA', hM', nA, nM, hU⟩
      have q1 := Kp.nw k1 hA' nA h.lt (fun he => absurd he (nums_ne p1))
      have q2 := Kp.nw k2 hM' nM h.lt (fun he => absurd he (prs_ne p2))
      refine ⟨none, A', c', M', d', rfl, ⟨⟨fun k hk => ?_, .inl h.own, (fun k hk => by cases hk), ⟨rfl, hB'⟩⟩, ⟨hA', fun b k e => (q1.off b k e).imp (fun x => x) (fun hn hF => hF.elim hn (fun h => by cases h))⟩, ⟨hM', fun b k e => (q2.off b k e).imp (fun x => x) (fun hn hF => hF.elim hn (fun h => by cases h))⟩, (fun k hk => by cases hk), hU⟩⟩
      rcases hk with hk | hk
      · exact Nat.lt_of_lt_of_le (h.lt k hk) hU.size
      · cases hk
    · rw [if_neg hr] at hadd
      simp only [Prod.mk.injEq] at hadd
      obtain ⟨rfl, rfl, rfl, rfl, rfl⟩ := hadd
      refine (cadd_old_more hr hbb rfl rfl rfl rfl h2 h1 w hB hO k1.sl k2.sl hA2 hM2).mono ?_
      rintro e w' ⟨A', c', M', d', rfl, hB', hO', hA', hM', nA, nM, hU⟩
      have q1 := Kp.nw k1 hA' nA h.lt (fun he => absurd he (nums_ne p1))
      have q2 := Kp.nw k2 hM' nM h.lt (fun he => absurd he (prs_ne p2))
      refine ⟨some o, none, 0, none, 0, rfl, ⟨⟨fun k hk => Nat.lt_of_lt_of_le (h.lt k (eF k hk)) hU.size, .inl h.own, fun k hk => .inr hk, ⟨o, A', c', M', d', rfl, hx0.1, hx0.2, hB', hO', ⟨hA', fun b k e => (q1.off b k e).imp (fun x => x) (fun hn hF => hn (eF b hF))⟩, ⟨hM', fun b k e => (q2.off b k e).imp (fun x => x) (fun hn hF => hn (eF b hF))⟩⟩⟩, Kp.zero _ _, Kp.zero _ _, fun k hk => .inl hk, hU⟩⟩

theorem cexp_to {w : World} {F : Nat → Prop} {g : Nat} {p : Option Nat} {win most now : Int} {s s' : CSt} {is : Bool} {b : BT} {n m : Nat} (hexp : cexp s now = (s', b, is)) (hn : b.1.length = n) (hm : b.2.length = m) (h : IsC w F g p win most s) :
    Calls Try.prog 17 #[.pointer (some ⟨g, 0, none⟩), .int .u64 now] w fun e w' => ∃ p' A c M d,
      e = .returned (.tuple #[.agg #[.slice A n c, .slice M m d], .bool is]) ∧ CPost w w' F g p p' win most s' A M n c m d b := by
  subst hn hm
  cases s with
  | none =>
    obtain ⟨rfl, hb⟩ := h.st
    unfold cexp at hexp
    simp only [Prod.mk.injEq] at hexp
    obtain ⟨rfl, rfl, rfl⟩ := hexp
    refine (cexp_none now w hb).mono ?_
    rintro e w' ⟨rfl, hd⟩
    have hu := Upd.of_below hd (fun _ => False)
    have h' := h.keep0 hu
    exact ⟨none, none, 0, none, 0, rfl, ⟨⟨fun k hk => h'.lt k (hk.elim (fun x => x) (fun h => by cases h)), .inl h.own, (fun k hk => by cases hk), h'.st⟩, Kp.zero _ _, Kp.zero _ _, (fun k hk => by cases hk), Upd.of_below hd _⟩⟩
  | some be =>
    obtain ⟨⟨xs, ms⟩, e0⟩ := be
    obtain ⟨o, A, c, M, d, rfl, p1, p2, hB, hO, k1, k2⟩ := id h.st
    have og : F o := h.opn o rfl
    unfold cexp at hexp
    simp only at hexp
    by_cases hr : now < e0
    · rw [if_pos hr] at hexp
      simp only [Prod.mk.injEq] at hexp
      obtain ⟨rfl, rfl, rfl⟩ := hexp
      refine (cexp_early now hr w hB hO).mono ?_
      rintro e w' ⟨rfl, hd⟩
      have hu := Upd.of_below hd (fun _ => False)
      refine ⟨some o, none, 0, none, 0, rfl, ⟨h.keep hu (fun _ _ h => h) (fun _ h => h.elim) (fun k hk => .inl (hk.elim (fun x => x) (fun hk => by injection hk with hk; exact hk ▸ og))) (fun k hk => ?_) (fun k hk => .inl hk), Kp.zero _ _, Kp.zero _ _, fun k hk => .inl hk, Upd.of_below hd _⟩⟩
      exact Nat.lt_of_lt_of_le (h.lt k (hk.elim (fun x => x) (fun hk => by injection hk with hk; exact hk ▸ og))) hu.size
    · rw [if_neg hr] at hexp
      simp only [Prod.mk.injEq] at hexp
      obtain ⟨rfl, rfl, rfl⟩ := hexp
      refine (cexp_over now hr w hB hO).mono ?_
      rintro e w' ⟨rfl, hB', hU⟩
      have hF : ∀ k, (F k ∨ none = some k) → F k := fun k hk => hk.elim (fun x => x) (fun h => by cases h)
      have q1 := k1.keep hU (fun k hk => h.fr k (.inl hk))
      have q2 := k2.keep hU (fun k hk => h.fr k (.inl hk))
      exact ⟨none, A, c, M, d, rfl, ⟨⟨fun k hk => Nat.lt_of_lt_of_le (h.lt k (hF k hk)) hU.size, .inl h.own, (fun k hk => by cases hk), ⟨rfl, hB'⟩⟩, ⟨q1.sl, fun b k e => (q1.off b k e).imp (fun x => x) (fun hn h => hn (hF b h))⟩, ⟨q2.sl, fun b k e => (q2.off b k e).imp (fun x => x) (fun hn h => hn (hF b h))⟩, (fun k hk => by cases hk), hU.mono (fun k hk => .inl (At_Fr2 k hk))⟩⟩
end Go.Proofs.Ytnpecnljibeddaa
