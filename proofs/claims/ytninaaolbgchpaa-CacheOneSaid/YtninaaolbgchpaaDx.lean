/- A deed, of both: what is said of it. -/
import Derived.Test.YtninaaolbgchpaaAw
import Derived.Test.YtninaaolbgchpaaDa
namespace Go.Proofs.Ytninaaolbgchpaa
open Go.RowKit
open Go.Maps (Keyed IsMap Tidy)
set_option linter.unusedVariables false
set_option linter.unusedSimpArgs false

def zE (E : List En) (k : K3) (id : Int) : List En := if k.1 = 0 then E else askE E k id
def zJ (E : List En) (J : List J2) (k : K3) (id : Int) : List J2 := if k.1 = 0 then J else askJ E J k id
def zA (E : List En) (k : K3) : Int := if k.1 = 0 then 1 else askA E k
def zT (E : List En) (k : K3) : K3 := if k.1 = 0 then (0, 0, 0) else askT E k
def dE (E : List En) (kd id : Int) (k t : K3) : List En := if kd = 1 then zE E k id else if kd = 2 then setE E id t else cloE E k.1
def dJ (E : List En) (J : List J2) (kd id : Int) (k : K3) : List J2 := if kd = 1 then zJ E J k id else if kd = 2 then setJ J id else J
theorem askE_len (E : List En) (k : K3) (id : Int) : (askE E k id).length ≤ E.length + 1 := by
  unfold askE
  split
  · omega
  · simp
theorem askJ_len (E : List En) (J : List J2) (k : K3) (id : Int) : (askJ E J k id).length ≤ J.length + 1 := by
  unfold askJ
  split
  · simp
  · omega
theorem dE_len (E : List En) (kd id : Int) (k t : K3) : (dE E kd id k t).length ≤ E.length + 1 := by
  unfold dE zE
  split
  · split
    · omega
    · exact askE_len E k id
  · split
    · rw [setE_len]; omega
    · exact Nat.le_succ_of_le (clo_le E k.1)
theorem dJ_len (E : List En) (J : List J2) (kd id : Int) (k : K3) : (dJ E J kd id k).length ≤ J.length + 1 := by
  unfold dJ zJ
  split
  · split
    · omega
    · exact askJ_len E J k id
  · split
    · exact Nat.le_succ_of_le (setJ_len J id)
    · omega
section
variable {base g bk bj N tb : Nat} {F F' X : Nat → Prop} {E E' : List En} {J J' : List J2}
/-- A block more is kept apart. -/
theorem CS.addF {w W : World} (h : CS w base g bk bj F E J N) (hu : Upd (fun _ => False) w W) (hb : w.heap.size ≤ tb) (hlt : tb < W.heap.size) : CS W base g bk bj (fun k => F k ∨ At tb k) E J N := by
  have h1 := h.upd0 hu
  have hg := h.blk.lt
  have hk := (h.fr _ h.fk)
  refine ⟨h1.blk, h1.gb, .inl h1.fk, .inl h1.fj, fun k hk => hk.elim (fun hk => h1.fr k hk) (fun hk => by rw [show k = tb from hk]; omega), h1.kj, fun hf => hf.elim h1.gF (fun e => by have e : g = tb := e; omega), h1.ids, h1.jn, h.keys.upd hu (fun h => h) (fun _ h => h.elim) (fun k hk => hk.imp _root_.id (fun e => by rw [show k = tb from e]; exact hb)), ?_⟩
  obtain ⟨n', D', JL, hn', hm', hl', hr'⟩ := h1.joins
  exact ⟨n', D', JL, hn', hm', hl', hr'.row0 (fun _ hf => .inl hf)⟩
/-- That block is written. -/
theorem CS.box {w W : World} (h : CS w base g bk bj F E J N) (hX : CS w base g bk bj (fun k => F k ∨ At tb k) E J N) (hu : Upd (At tb) w W) (hn : ¬ F tb) : CS W base g bk bj (fun k => F k ∨ At tb k) E J N := by
  have hk := h.fk
  refine ⟨h.blk.upd hu (fun e => hX.gF (.inr e)), h.gb, .inl h.fk, .inl h.fj, fun k hk => ⟨(hX.fr k hk).1, Nat.lt_of_lt_of_le (hX.fr k hk).2 hu.size⟩, h.kj, hX.gF, h.ids, h.jn, hX.keys.upd hu (fun e => hn ((show bk = tb from e) ▸ hk)) (fun k hk => .inl (.inr hk)) (fun _ h => .inl h), ?_⟩
  obtain ⟨n', D', JL, hn', hm', hl', hr'⟩ := h.joins.apart hu (fun k hk hf => hn ((show k = tb from hk) ▸ hf)) h.fj
  exact ⟨n', D', JL, hn', hm', hl', hr'.row0 (fun _ hf => .inl hf)⟩
/-- A block of another type is written. -/
theorem CS.boxT {w W : World} {x : Nat} {ty : TypeId} {cs : Array Value} (h : CS w base g bk bj F E J N) (hb : Blk w x ty cs) (h1 : 44 ≠ ty) (h2 : 61 ≠ ty) (h3 : 3 ≠ ty) (hu : Upd (At x) w W) : CS W base g bk bj F E J N := by
  obtain ⟨n, D, EP, hn, hm, he, hl, ht⟩ := h.keys
  obtain ⟨n', D', JL, hn', hm', hl', hr'⟩ := h.joins
  refine ⟨h.blk.upd hu (Blk.ne h.blk hb h2), h.gb, h.fk, h.fj, fun k hk => ⟨(h.fr k hk).1, Nat.lt_of_lt_of_le (h.fr k hk).2 hu.size⟩, h.kj, h.gF, h.ids, h.jn, ⟨n, D, EP, hn, hm.upd hu (hm.ne_blk hb), he, hl, fun p hp => ?_⟩, ⟨n', D', JL, hn', hm'.upd hu (hm'.ne_blk hb), hl', hr'.upd hu (fun k hk id v hv hob => own_sep (hr'.row id v hv).1 hb h3 ((show k = x from hk) ▸ hob)) (fun _ hf => hf)⟩⟩
  have := ht p hp
  unfold Tells at this ⊢
  split
  · rename_i he_
    rw [he_] at this
    exact this
  · rename_i t he_
    rw [he_] at this
    obtain ⟨b, e, hbb, hge, hnf⟩ := this
    exact ⟨b, e, hbb.upd hu (Blk.ne hbb hb h1), hge, hnf⟩
/-- Ask, of any scope, beside a block. -/
theorem ask_all {k : K3} {id : Int} (hk : kok k) (hid : iok id) (hN : N < 1000) (w : World) (hp : CS w base g bk bj F E J N) (hX : CS w base g bk bj (fun k => F k ∨ X k) E J N) :
    Calls Try.prog 15 #[.pointer (some ⟨g, 0, none⟩), kval k, .int .i64 id] w fun e w' => e = .returned (.tuple #[.int .i64 (zA E k), kval (zT E k)]) ∧ (∃ F', CS w' base g bk bj F' (zE E k id) (zJ E J k id) (N + 1) ∧ CS w' base g bk bj (fun k => F' k ∨ X k) (zE E k id) (zJ E J k id) (N + 1) ∧ ∀ x, F' x → F x ∨ w.heap.size ≤ x) ∧ Upd F w w' := by
  by_cases h0 : k.1 = 0
  · refine (ask_zero k h0 id w).mono ?_
    rintro e w' ⟨rfl, hu⟩
    unfold zA zT zE zJ
    simp only [if_pos h0]
    exact ⟨trivial, ⟨F, (hp.upd0 hu).more (Nat.le_succ _), (hX.upd0 hu).more (Nat.le_succ _), fun x hx => .inl hx⟩, hu.mono (fun _ h => h.elim)⟩
  · refine (ask_off hk h0 hid hN w hp hX).mono ?_
    rintro e w' ⟨rfl, h⟩
    unfold zA zT zE zJ
    simp only [if_neg h0]
    exact ⟨trivial, h⟩
theorem ask_one {k : K3} {id : Int} (hk : kok k) (hid : iok id) (hN : N < 1000) (w : World) (hp : CS w base g bk bj F E J N) :
    Calls Try.prog 15 #[.pointer (some ⟨g, 0, none⟩), kval k, .int .i64 id] w fun e w' => e = .returned (.tuple #[.int .i64 (zA E k), kval (zT E k)]) ∧ (∃ F', CS w' base g bk bj F' (zE E k id) (zJ E J k id) (N + 1) ∧ ∀ x, F' x → F x ∨ w.heap.size ≤ x) ∧ Upd F w w' := by
  have e : (fun k => F k ∨ (fun _ => False) k) = F := by funext k; simp
  refine (ask_all (X := fun _ => False) hk hid hN w hp (by rw [e]; exact hp)).mono ?_
  rintro e w' ⟨he, ⟨F', h1, _, h3⟩, hu⟩
  exact ⟨he, ⟨F', h1, h3⟩, hu⟩
variable {A B : Option Addr} {n m c d : Nat}
theorem rask_all (k : K3) (id : Int) (hl : E.length = n) (hn : n ≤ 1000) (hm : J.length = m) (hm1 : m ≤ 1000) (w : World) (hF : ∀ k, F k → k < w.heap.size) (hA : Kp w F A n c (fl e8 E)) (hB : Kp w F B m d (prs J)) :
    Calls Try.prog 20 #[.agg #[.slice A n c, .slice B m d], kval k, .int .i64 id] w fun e w' => ∃ A' c' B' d', e = .returned (.tuple #[.agg #[.slice A' (zE E k id).length c', .slice B' (zJ E J k id).length d'], .int .i64 (zA E k), kval (zT E k)]) ∧ Kp w' F A' (zE E k id).length c' (fl e8 (zE E k id)) ∧ Kp w' F B' (zJ E J k id).length d' (prs (zJ E J k id)) ∧ Upd (fun _ => False) w w' := by
  by_cases h0 : k.1 = 0
  · refine (rask_zero k h0 id w hA hB).mono ?_
    rintro e w' ⟨rfl, h⟩
    unfold zA zT zE zJ
    simp only [if_pos h0]
    exact ⟨A, c, B, d, by rw [hl, hm], by rw [hl]; exact h.1, by rw [hm]; exact h.2.1, h.2.2⟩
  · refine (rask_to k h0 id hl hn hm hm1 w hF hA hB).mono ?_
    rintro e w' h
    unfold zA zT zE zJ
    simp only [if_neg h0]
    exact h
/-- Behind Ask, and the answer's box. -/
structure Aft (w W : World) (base g bk bj tb : Nat) (F F' : Nat → Prop) (E : List En) (J : List J2) (N : Nat) (cs : Array Value) : Prop where
  cs_ : CS W base g bk bj F' E J N
  sub : ∀ x, F' x → F x ∨ w.heap.size ≤ x
  upd : Upd F w W
  box : Blk W tb 44 cs
theorem aft12 {w v w6 : World} {a b d x0 x1 x2 : Value} (h : CS w6 base g bk bj F' E J N) (hX : CS w6 base g bk bj (fun k => F' k ∨ At tb k) E J N) (hs : ∀ x, F' x → F x ∨ v.heap.size ≤ x) (hv : Upd (fun _ => False) w v) (h1 : w.heap.size ≤ tb) (h2 : tb < v.heap.size) (hF : ¬ F tb) (hu : Upd F v w6) (hb : Blk w6 tb 44 #[x0, x1, x2]) :
    Aft w (((w6.setCell ⟨tb, 0, none⟩ a).setCell ⟨tb, 1, none⟩ b).setCell ⟨tb, 2, none⟩ d) base g bk bj tb F (fun k => F' k ∨ At tb k) E J N #[a, b, d] := by
  have hw : Upd (At tb) w6 (((w6.setCell ⟨tb, 0, none⟩ a).setCell ⟨tb, 1, none⟩ b).setCell ⟨tb, 2, none⟩ d) := (((Upd.refl (At tb) w6).put 0 a).put 1 b).put 2 d
  have hn : ¬ F' tb := fun h => (hs tb h).elim hF (fun h => by omega)
  refine ⟨h.box hX hw hn, fun x hx => hx.elim (fun hx => (hs x hx).imp _root_.id (fun h => Nat.le_trans hv.size h)) (fun e => .inr (by rw [show x = tb from e]; exact h1)), ?_, ?_⟩
  · exact ((hv.mono (fun _ h => h.elim)).trans hu (fun _ h => .inl h)).trans hw (fun x e => .inr (by rw [show x = tb from e]; exact h1))
  · have := ((hb.set 0 a).set 1 b).set 2 d
    simpa using this
theorem aft3 {w v w6 : World} {cs : Array Value} (h : CS w6 base g bk bj F' E J N) (hs : ∀ x, F' x → F x ∨ v.heap.size ≤ x) (hv : Upd (fun _ => False) w v) (hu : Upd F v w6) :
    Aft w (w6.alloc (.cells cs 44)) base g bk bj w6.heap.size F F' E J N cs :=
  ⟨h.upd0 ((Upd.refl _ _).alloc _), fun x hx => (hs x hx).imp _root_.id (fun h => Nat.le_trans hv.size h), ((hv.mono (fun _ h => h.elim)).trans hu (fun _ h => .inl h)).alloc _, Blk.new _ _ _⟩
theorem settle_l {id : Int} {t : K3} {L : List Int} (hL : setL J id = L) (hid : iok id) (hN : N ≤ 1000) (w : World) (hp : CS w base g bk bj F E J N) :
    Calls Try.prog 17 #[.pointer (some ⟨g, 0, none⟩), .int .i64 id, kval t] w fun e w' => ∃ A c F', e = .returned (.slice A L.length c) ∧ Sl w' A L.length c (nums L) ∧ (∀ k, F' k → F k) ∧ CS w' base g bk bj F' (setE E id t) (setJ J id) N ∧ Upd F w w' := by
  subst hL
  refine (settle_to hid hN w hp).mono ?_
  rintro e w' ⟨A, c, F', h1, h2, h3, h4, h5, h6⟩
  exact ⟨A, c, F', h1, h2, h4, h5, h6⟩
theorem rsettle_l {id : Int} (t : K3) {L : List Int} (hL : setL J id = L) (hl : E.length = n) (hn : n ≤ 1000) (hm : J.length = m) (hm1 : m ≤ 1000) (w : World) (hF : ∀ k, F k → k < w.heap.size) (hA : Kp w F A n c (fl e8 E)) (hB : Kp w F B m d (prs J)) :
    Calls Try.prog 21 #[.agg #[.slice A n c, .slice B m d], .int .i64 id, kval t] w fun e w' => ∃ A' c' B' d' L' l', e = .returned (.tuple #[.agg #[.slice A' n c', .slice B' (setJ J id).length d'], .slice L' L.length l']) ∧ Kp w' F A' n c' (fl e8 (setE E id t)) ∧ Kp w' F B' (setJ J id).length d' (prs (setJ J id)) ∧ Kp w' F L' L.length l' (nums L) ∧ Upd (fun _ => False) w w' := by
  subst hL
  exact rsettle_to id t hl hn hm hm1 w hF hA hB
end
end Go.Proofs.Ytninaaolbgchpaa
