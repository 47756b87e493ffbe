/- The cache's calls, as a law's walk wants them. -/
import Derived.Test.YtninaaolbgchpaaAk
import Derived.Test.YtninaaolbgchpaaSt
import Derived.Test.YtninaaolbgchpaaCl
import Derived.Test.YtninaaolbgchpaaCf
namespace Go.Proofs.Ytninaaolbgchpaa
open Go.RowKit
open Go.Maps (Keyed IsMap Tidy)
set_option linter.unusedVariables false
set_option linter.unusedSimpArgs false

section
variable {base g bk bj N n : Nat} {F F' : Nat → Prop} {E E' : List En} {J J' : List J2} {k t : K3} {id a : Int} {L : List Int}
theorem CS.nb {w : World} (h : CS w base g bk bj F E J N) {b : Nat} (hb : w.heap.size ≤ b) : ¬ F b := fun hf => absurd (h.fr _ hf).2 (Nat.not_lt.2 hb)
theorem CS.nlow {w : World} (h : CS w base g bk bj F E J N) {b : Nat} (hb : b < base) : ¬ F b := fun hf => absurd (h.fr _ hf).1 (Nat.not_le.2 hb)
theorem nb_step {w : World} {b : Nat} {ty : TypeId} {cs : Array Value} (hf : ∀ x, F' x → F x ∨ w.heap.size ≤ x) (hb : Blk w b ty cs) (hn : ¬ F b) : ¬ F' b := fun h => (hf b h).elim hn (fun h => absurd hb.lt (Nat.not_lt.2 h))
theorem upd_step {w w1 w2 : World} (h : Upd (fun _ => False) w w1) (hp : CS w1 base g bk bj F E J N) (hb : w.heap.size ≤ base) (hu : Upd F w1 w2) : Upd (fun _ => False) w w2 := h.trans hu (fun k hk => .inr (Nat.le_trans hb (hp.fr k hk).1))
theorem upd_close {w w1 w2 : World} (h : Upd (fun _ => False) w w1) (hp : CS w1 base g bk bj F E J N) (hb : w.heap.size ≤ base) (hu : Upd (At bk) w1 w2) : Upd (fun _ => False) w w2 := upd_step h hp hb (hu.mono fun i hi => .inl (by rw [show i = bk from hi]; exact hp.fk))
theorem ask_st (hk : kok k) (hk0 : k.1 ≠ 0) (hid : iok id) (hN : N < 1000) (hE : askE E k id = E') (hJ : askJ E J k id = J') (ha : askA E k = a) (ht : askT E k = t) (w : World) (hp : CS w base g bk bj F E J N) :
    Calls Try.prog 15 #[.pointer (some ⟨g, 0, none⟩), kval k, .int .i64 id] w fun e w' => e = .returned (.tuple #[.int .i64 a, kval t]) ∧ (∃ F', CS w' base g bk bj F' E' J' (N + 1) ∧ ∀ x, F' x → F x ∨ w.heap.size ≤ x) ∧ Upd F w w' := by
  subst hE hJ ha ht
  exact ask_to hk hk0 hid hN w hp
theorem settle_st (hid : iok id) (hN : N ≤ 1000) (hE : setE E id t = E') (hJ : setJ J id = J') (hL : setL J id = L) (hn : L.length = n) (w : World) (hp : CS w base g bk bj F E J N) :
    Calls Try.prog 17 #[.pointer (some ⟨g, 0, none⟩), .int .i64 id, kval t] w fun e w' => ∃ A c, e = .returned (.slice A n c) ∧ (∃ F', CS w' base g bk bj F' E' J' N ∧ (∀ x, F' x → F x ∨ w.heap.size ≤ x) ∧ Kp w' F' A n c (nums L)) ∧ Upd F w w' := by
  subst hE hJ hL hn
  refine (settle_to hid hN w hp).mono ?_
  rintro e w' ⟨A, c, F', rfl, hs, ho, hf, hc, hu⟩
  exact ⟨A, c, rfl, ⟨F', hc, fun x hx => .inl (hf x hx), Kp.of_new hs ho⟩, hu⟩
theorem close_st {s : Int} (hN : N ≤ 1000) (hE : cloE E s = E') (hn : E.length - E'.length = n) (w : World) (hp : CS w base g bk bj F E J N) :
    Calls Try.prog 14 #[.pointer (some ⟨g, 0, none⟩), .int .i64 s] w fun e w' => e = .returned (.int .i64 (n : Int)) ∧ CS w' base g bk bj F E' J N ∧ Upd F w w' := by
  subst hE hn
  refine (close_to s hN w hp).mono ?_
  rintro e w' ⟨rfl, hc, hu⟩
  exact ⟨rfl, hc, hu.mono fun i hi => .inl (by rw [show i = bk from hi]; exact hp.fk)⟩
theorem len_st (hn : E.length = n) (w : World) (hp : CS w base g bk bj F E J N) : Calls Try.prog 12 #[.pointer (some ⟨g, 0, none⟩)] w fun e w' => e = .returned (.int .i64 (n : Int)) ∧ Upd (fun _ => False) w w' := by
  subst hn
  exact len_to w hp
/-- A short slice that was just made. -/
theorem sl_new {w : World} {b : Nat} {ty : TypeId} {xs : List Int} {m : Nat} {cs : Array Value} (h : Blk w b ty cs) (hc : cs = (nums xs).toArray) (hm : xs.length = m) (hle : m ≤ 1000) : Sl w (some ⟨b, 0, none⟩) m m (nums xs) :=
  Sl.of_blk h (Nat.le_refl _) (by unfold maxLen; omega) (fun j u hu => by rw [hc]; simpa using hu)
end
end Go.Proofs.Ytninaaolbgchpaa
