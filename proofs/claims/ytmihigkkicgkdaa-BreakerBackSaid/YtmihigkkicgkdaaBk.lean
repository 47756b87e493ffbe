/- BreakerOne, BreakerForced, BreakerBack: walks behind 'ran'. -/
import Derived.Test.YtmihigkkicgkdaaRn
namespace Go.Proofs.Ytmihigkkicgkdaa
open Go.RowKit
set_option linter.unusedVariables false
set_option linter.unusedSimpArgs false

theorem DRows.upd {w w' : World} {A : Option Addr} {D : List Deed} (h : DRows w A D) (hb : Below w.heap.size w w') : DRows w' A D := fun i d hd => by
  obtain ⟨b, o, hA, hlt, h0, h1, h2⟩ := h i d hd
  exact ⟨b, o, hA, Nat.lt_of_lt_of_le hlt hb.size, (hb.cell (p := ⟨b, _, none⟩) hlt).trans h0, (hb.cell (p := ⟨b, _, none⟩) hlt).trans h1, (hb.cell (p := ⟨b, _, none⟩) hlt).trans h2⟩
def Free (b : B) : Prop := b.force = 0 ∧ (b.st = 1 ∨ b.st = 2 ∨ b.st = 3)
theorem free_act (b : B) (k t : Int) (ok : Bool) (h : Free b) : Free (b.act k t ok) := by
  obtain ⟨h1, h2⟩ := h
  unfold B.act B.ask B.trip B.fin B.back Free
  repeat' split
  all_goals (first | exact ⟨h1, h2⟩ | exact ⟨h1, Or.inl rfl⟩ | exact ⟨h1, Or.inr (Or.inl rfl)⟩ | exact ⟨h1, Or.inr (Or.inr rfl)⟩)
def Still (sleep force : Int) (b : B) : Prop := b = ⟨1, 0, sleep, force⟩
theorem still_act {sleep force : Int} (hf : force = 1 ∨ force = 2) (b : B) (k t : Int) (ok : Bool) (h : Still sleep force b) : Still sleep force (b.act k t ok) := by
  unfold Still at h
  subst h
  rcases hf with rfl | rfl <;> simp [B.act, B.ask, B.trip, B.fin, B.back, Still]

set_option maxHeartbeats 4000000 in
theorem forced_any (s : Int) (hs : ok64 s) (A : Option Addr) (len cap : Nat) (D : List Deed) (hD : D.length = len) (hm : len ≤ 9223372036854775807) (hok : ∀ d ∈ D, ok64 d.t) (op : Bool) (w : World) (hr : DRows w A D) :
    Calls Try.prog 6 #[.int .u64 s, .slice A len cap, .bool op] w fun e w' => e = .returned (.bool true) ∧ Below w.heap.size w w' := by
  have HS := Lib.hid hs
  have HR := Lib.hid hr
  have HOK := Lib.hid hok
  have HD := Lib.hid hD
  clear hs hr hok hD
  cases op
  · skip
    go_enter Try.func6, Try.ntmps6
    go_wp2_with fail
    refine (awake_any _).mono ?_
    rintro e w1 ⟨rfl, hd1⟩
    have HU := Lib.hid (Upd.of_below hd1 (fun _ => False))
    have HR1 : Hid (DRows w1 A D) := HR.out.upd hd1
    have hsz1 := Lib.hid hd1.size
    clear hd1
    go_wp2_with fail
    refine (conf_any s 2 _ (by omega) (by omega)).mono ?_
    rintro e w2 ⟨rfl, hd⟩
    have HR2 : Hid (DRows w2 A D) := HR1.out.upd hd
    have HU2 := Lib.hid (HU.out.trans (Upd.of_below hd (fun _ => False)) (fun _ h => h.elim))
    clear hd HU HR1
    go_wp2_with fail
    refine (ran_any _ _ _ _ _ _ _ _ _ _ _ _ _ _ s 2 HS.out A len cap D HD.out hm HOK.out (Still s 2) (rfl) (fun b k t ok h => still_act (by simp) b k t ok h) _ HR2.out).mono ?_
    rintro e w3 ⟨g, b, t, rfl, hb, hg, hbo, ht, hj, hd⟩
    have HB := Lib.hid hb
    have HU := Lib.hid ((HU2.out.trans (Upd.of_below hd (fun _ => False)) (fun _ h => h.elim)).mono (S' := At g) (fun _ h => h.elim))
    have hgw : w.heap.size ≤ g := by have := HU2.out.size; omega
    have HBO := Lib.hid hbo
    have HT := Lib.hid ht
    clear hb hd HU2 hg hbo ht
    obtain ⟨s1, u, p, q⟩ := b
    have hj2 : s1 = 1 ∧ u = 0 ∧ p = s ∧ q = 2 := by unfold Still at hj; injection hj with a b c d; exact ⟨a, b, c, d⟩
    clear hj
    obtain ⟨rfl, rfl, rfl, rfl⟩ := hj2
    go_wp2_with fail
    refine (ask_to (n := 1) (b := ⟨1, 0, p, 2⟩) (b2 := ⟨1, 0, p, 2⟩) HB.out HBO.out (by simp [B.ask])).mono ?_
    rintro e ws0 ⟨rfl, hb, hu⟩
    have hsz0 := Lib.hid hu.size
    have HB2 := Lib.hid hb
    have HU2 := Lib.hid (HU.out.trans hu (fun _ h => .inl h))
    clear hb hu HB HU
    have HB := HB2
    have HU := HU2
    clear HB2 HU2
    go_wp2_with fail
    refine (trip_to (n := false) (b := ⟨1, 0, p, 2⟩) (b2 := ⟨1, 0, p, 2⟩) HB.out (by simp [B.trip])).mono ?_
    rintro e ws1 ⟨rfl, hb, hu⟩
    have hsz1 := Lib.hid hu.size
    have HB2 := Lib.hid hb
    have HU2 := Lib.hid (HU.out.trans hu (fun _ h => .inl h))
    clear hb hu HB HU
    have HB := HB2
    have HU := HU2
    clear HB2 HU2
    go_wp2_with fail
    refine (fin_to (n := false) (b := ⟨1, 0, p, 2⟩) (b2 := ⟨1, 0, p, 2⟩) HB.out (by simp [B.fin])).mono ?_
    rintro e ws2 ⟨rfl, hb, hu⟩
    have hsz2 := Lib.hid hu.size
    have HB2 := Lib.hid hb
    have HU2 := Lib.hid (HU.out.trans hu (fun _ h => .inl h))
    clear hb hu HB HU
    have HB := HB2
    have HU := HU2
    clear HB2 HU2
    go_wp2_with fail
    refine (back_to (n := false) (b := ⟨1, 0, p, 2⟩) (b2 := ⟨1, 0, p, 2⟩) HB.out (by simp [B.back])).mono ?_
    rintro e ws3 ⟨rfl, hb, hu⟩
    have hsz3 := Lib.hid hu.size
    have HB2 := Lib.hid hb
    have HU2 := Lib.hid (HU.out.trans hu (fun _ h => .inl h))
    clear hb hu HB HU
    have HB := HB2
    have HU := HU2
    clear HB2 HU2
    go_wp2_with fail
    refine (state_any g _ _ HB.out).mono ?_
    rintro e w90 ⟨rfl, rfl⟩
    go_wp2_with fail
    refine (since_any g _ _ HB.out).mono ?_
    rintro e w91 ⟨rfl, rfl⟩
    go_wp2_with fail
    go_ret
    exact ⟨rfl, HU.out.below (by unfold At; omega)⟩
  · skip
    go_enter Try.func6, Try.ntmps6
    go_wp2_with fail
    refine (awake_any _).mono ?_
    rintro e w1 ⟨rfl, hd1⟩
    have HU := Lib.hid (Upd.of_below hd1 (fun _ => False))
    have HR1 : Hid (DRows w1 A D) := HR.out.upd hd1
    have hsz1 := Lib.hid hd1.size
    clear hd1
    go_wp2_with fail
    refine (conf_any s 1 _ (by omega) (by omega)).mono ?_
    rintro e w2 ⟨rfl, hd⟩
    have HR2 : Hid (DRows w2 A D) := HR1.out.upd hd
    have HU2 := Lib.hid (HU.out.trans (Upd.of_below hd (fun _ => False)) (fun _ h => h.elim))
    clear hd HU HR1
    go_wp2_with fail
    refine (ran_any _ _ _ _ _ _ _ _ _ _ _ _ _ _ s 1 HS.out A len cap D HD.out hm HOK.out (Still s 1) (rfl) (fun b k t ok h => still_act (by simp) b k t ok h) _ HR2.out).mono ?_
    rintro e w3 ⟨g, b, t, rfl, hb, hg, hbo, ht, hj, hd⟩
    have HB := Lib.hid hb
    have HU := Lib.hid ((HU2.out.trans (Upd.of_below hd (fun _ => False)) (fun _ h => h.elim)).mono (S' := At g) (fun _ h => h.elim))
    have hgw : w.heap.size ≤ g := by have := HU2.out.size; omega
    have HBO := Lib.hid hbo
    have HT := Lib.hid ht
    clear hb hd HU2 hg hbo ht
    obtain ⟨s1, u, p, q⟩ := b
    have hj2 : s1 = 1 ∧ u = 0 ∧ p = s ∧ q = 1 := by unfold Still at hj; injection hj with a b c d; exact ⟨a, b, c, d⟩
    clear hj
    obtain ⟨rfl, rfl, rfl, rfl⟩ := hj2
    go_wp2_with fail
    refine (ask_to (n := 3) (b := ⟨1, 0, p, 1⟩) (b2 := ⟨1, 0, p, 1⟩) HB.out HBO.out (by simp [B.ask])).mono ?_
    rintro e ws4 ⟨rfl, hb, hu⟩
    have hsz4 := Lib.hid hu.size
    have HB2 := Lib.hid hb
    have HU2 := Lib.hid (HU.out.trans hu (fun _ h => .inl h))
    clear hb hu HB HU
    have HB := HB2
    have HU := HU2
    clear HB2 HU2
    go_wp2_with fail
    refine (trip_to (n := false) (b := ⟨1, 0, p, 1⟩) (b2 := ⟨1, 0, p, 1⟩) HB.out (by simp [B.trip])).mono ?_
    rintro e ws5 ⟨rfl, hb, hu⟩
    have hsz5 := Lib.hid hu.size
    have HB2 := Lib.hid hb
    have HU2 := Lib.hid (HU.out.trans hu (fun _ h => .inl h))
    clear hb hu HB HU
    have HB := HB2
    have HU := HU2
    clear HB2 HU2
    go_wp2_with fail
    refine (fin_to (n := false) (b := ⟨1, 0, p, 1⟩) (b2 := ⟨1, 0, p, 1⟩) HB.out (by simp [B.fin])).mono ?_
    rintro e ws6 ⟨rfl, hb, hu⟩
    have hsz6 := Lib.hid hu.size
    have HB2 := Lib.hid hb
    have HU2 := Lib.hid (HU.out.trans hu (fun _ h => .inl h))
    clear hb hu HB HU
    have HB := HB2
    have HU := HU2
    clear HB2 HU2
    go_wp2_with fail
    refine (back_to (n := false) (b := ⟨1, 0, p, 1⟩) (b2 := ⟨1, 0, p, 1⟩) HB.out (by simp [B.back])).mono ?_
    rintro e ws7 ⟨rfl, hb, hu⟩
    have hsz7 := Lib.hid hu.size
    have HB2 := Lib.hid hb
    have HU2 := Lib.hid (HU.out.trans hu (fun _ h => .inl h))
    clear hb hu HB HU
    have HB := HB2
    have HU := HU2
    clear HB2 HU2
    go_wp2_with fail
    refine (state_any g _ _ HB.out).mono ?_
    rintro e w92 ⟨rfl, rfl⟩
    go_wp2_with fail
    refine (since_any g _ _ HB.out).mono ?_
    rintro e w93 ⟨rfl, rfl⟩
    go_wp2_with fail
    go_ret
    exact ⟨rfl, HU.out.below (by unfold At; omega)⟩

set_option maxHeartbeats 4000000 in
theorem back_law (s : Int) (hs : ok64 s) (A : Option Addr) (len cap : Nat) (D : List Deed) (hD : D.length = len) (hm : len ≤ 9223372036854775807) (hok : ∀ d ∈ D, ok64 d.t) (w : World) (hr : DRows w A D) :
    Calls Try.prog 7 #[.int .u64 s, .slice A len cap] w fun e w' => e = .returned (.bool true) ∧ Below w.heap.size w w' := by
  have HS := Lib.hid hs
  have HR := Lib.hid hr
  have HOK := Lib.hid hok
  have HD := Lib.hid hD
  clear hs hr hok hD
  go_enter Try.func7, Try.ntmps7
  go_wp2_with fail
  refine (awake_any _).mono ?_
  rintro e w1 ⟨rfl, hd1⟩
  have HU := Lib.hid (Upd.of_below hd1 (fun _ => False))
  have HR1 : Hid (DRows w1 A D) := HR.out.upd hd1
  have hsz1 := Lib.hid hd1.size
  clear hd1
  go_wp2_with fail
  refine (conf_any s 0 _ (by omega) (by omega)).mono ?_
  rintro e w2 ⟨rfl, hd⟩
  have HR2 : Hid (DRows w2 A D) := HR1.out.upd hd
  have HU2 := Lib.hid (HU.out.trans (Upd.of_below hd (fun _ => False)) (fun _ h => h.elim))
  clear hd HU HR1
  go_wp2_with fail
  refine (ran_any _ _ _ _ _ _ _ _ _ _ _ _ _ _ s 0 HS.out A len cap D HD.out hm HOK.out (Free) (⟨rfl, .inl rfl⟩) (fun b k t ok h => free_act b k t ok h) _ HR2.out).mono ?_
  rintro e w3 ⟨g, b, t, rfl, hb, hg, hbo, ht, hj, hd⟩
  have HB := Lib.hid hb
  have HU := Lib.hid ((HU2.out.trans (Upd.of_below hd (fun _ => False)) (fun _ h => h.elim)).mono (S' := At g) (fun _ h => h.elim))
  have hgw : w.heap.size ≤ g := by have := HU2.out.size; omega
  have HBO := Lib.hid hbo
  have HT := Lib.hid ht
  clear hb hd HU2 hg hbo ht
  obtain ⟨s1, u, p, q⟩ := b
  obtain ⟨rfl, hst⟩ : q = 0 ∧ (s1 = 1 ∨ s1 = 2 ∨ s1 = 3) := hj
  rcases hst with rfl | rfl | rfl
  · skip
    go_wp2_with fail
    refine (state_any g _ _ HB.out).mono ?_
    rintro e w90 ⟨rfl, rfl⟩
    go_wp2_with fail
    refine (state_any g _ _ HB.out).mono ?_
    rintro e w91 ⟨rfl, rfl⟩
    go_wp2_with fail
    refine (since_any g _ _ HB.out).mono ?_
    rintro e w92 ⟨rfl, rfl⟩
    go_wp2_with fail
    refine (ask_to (n := 1) (b := ⟨1, u, p, 0⟩) (b2 := ⟨1, u, p, 0⟩) HB.out HBO.out (by simp [B.ask])).mono ?_
    rintro e ws0 ⟨rfl, hb, hu⟩
    have hsz0 := Lib.hid hu.size
    have HB2 := Lib.hid hb
    have HU2 := Lib.hid (HU.out.trans hu (fun _ h => .inl h))
    clear hb hu HB HU
    have HB := HB2
    have HU := HU2
    clear HB2 HU2
    go_wp2_with fail
    refine (back_to (n := false) (b := ⟨1, u, p, 0⟩) (b2 := ⟨1, u, p, 0⟩) HB.out (by simp [B.back])).mono ?_
    rintro e ws1 ⟨rfl, hb, hu⟩
    have hsz1 := Lib.hid hu.size
    have HB2 := Lib.hid hb
    have HU2 := Lib.hid (HU.out.trans hu (fun _ h => .inl h))
    clear hb hu HB HU
    have HB := HB2
    have HU := HU2
    clear HB2 HU2
    go_wp2_with fail
    refine (state_any g _ _ HB.out).mono ?_
    rintro e w93 ⟨rfl, rfl⟩
    go_wp2_with fail
    refine (since_any g _ _ HB.out).mono ?_
    rintro e w94 ⟨rfl, rfl⟩
    go_wp2_with fail
    refine (ask_to (n := 1) (b := ⟨1, u, p, 0⟩) (b2 := ⟨1, u, p, 0⟩) HB.out HBO.out (by simp [B.ask])).mono ?_
    rintro e ws2 ⟨rfl, hb, hu⟩
    have hsz2 := Lib.hid hu.size
    have HB2 := Lib.hid hb
    have HU2 := Lib.hid (HU.out.trans hu (fun _ h => .inl h))
    clear hb hu HB HU
    have HB := HB2
    have HU := HU2
    clear HB2 HU2
    go_wp2_with fail
    go_ret
    exact ⟨rfl, HU.out.below (by unfold At; omega)⟩
  · have HBO2 := HBO
    go_wp2_with fail
    refine (state_any g _ _ HB.out).mono ?_
    rintro e w95 ⟨rfl, rfl⟩
    by_cases hle : sadd u p ≤ t
    · skip
      go_wp2_with fail
      refine (state_any g _ _ HB.out).mono ?_
      rintro e w96 ⟨rfl, rfl⟩
      go_wp2_with fail
      refine (since_any g _ _ HB.out).mono ?_
      rintro e w97 ⟨rfl, rfl⟩
      go_wp2_with fail
      refine (ask_to (n := 2) (b := ⟨2, u, p, 0⟩) (b2 := ⟨3, u, p, 0⟩) HB.out HBO2.out (by simp [B.ask, hle])).mono ?_
      rintro e ws3 ⟨rfl, hb, hu⟩
      have hsz3 := Lib.hid hu.size
      have HB2 := Lib.hid hb
      have HU2 := Lib.hid (HU.out.trans hu (fun _ h => .inl h))
      clear hb hu HB HU
      have HB := HB2
      have HU := HU2
      clear HB2 HU2
      go_wp2_with fail
      refine (back_to (n := true) (b := ⟨3, u, p, 0⟩) (b2 := ⟨2, u, p, 0⟩) HB.out (by simp [B.back])).mono ?_
      rintro e ws4 ⟨rfl, hb, hu⟩
      have hsz4 := Lib.hid hu.size
      have HB2 := Lib.hid hb
      have HU2 := Lib.hid (HU.out.trans hu (fun _ h => .inl h))
      clear hb hu HB HU
      have HB := HB2
      have HU := HU2
      clear HB2 HU2
      go_wp2_with fail
      refine (state_any g _ _ HB.out).mono ?_
      rintro e w98 ⟨rfl, rfl⟩
      go_wp2_with fail
      refine (since_any g _ _ HB.out).mono ?_
      rintro e w99 ⟨rfl, rfl⟩
      go_wp2_with fail
      refine (ask_to (n := 2) (b := ⟨2, u, p, 0⟩) (b2 := ⟨3, u, p, 0⟩) HB.out HBO2.out (by simp [B.ask, hle])).mono ?_
      rintro e ws5 ⟨rfl, hb, hu⟩
      have hsz5 := Lib.hid hu.size
      have HB2 := Lib.hid hb
      have HU2 := Lib.hid (HU.out.trans hu (fun _ h => .inl h))
      clear hb hu HB HU
      have HB := HB2
      have HU := HU2
      clear HB2 HU2
      go_wp2_with fail
      go_ret
      exact ⟨rfl, HU.out.below (by unfold At; omega)⟩
    · skip
      go_wp2_with fail
      refine (state_any g _ _ HB.out).mono ?_
      rintro e w100 ⟨rfl, rfl⟩
      go_wp2_with fail
      refine (since_any g _ _ HB.out).mono ?_
      rintro e w101 ⟨rfl, rfl⟩
      go_wp2_with fail
      refine (ask_to (n := 3) (b := ⟨2, u, p, 0⟩) (b2 := ⟨2, u, p, 0⟩) HB.out HBO2.out (by simp [B.ask, hle])).mono ?_
      rintro e ws6 ⟨rfl, hb, hu⟩
      have hsz6 := Lib.hid hu.size
      have HB2 := Lib.hid hb
      have HU2 := Lib.hid (HU.out.trans hu (fun _ h => .inl h))
      clear hb hu HB HU
      have HB := HB2
      have HU := HU2
      clear HB2 HU2
      go_wp2_with fail
      refine (back_to (n := false) (b := ⟨2, u, p, 0⟩) (b2 := ⟨2, u, p, 0⟩) HB.out (by simp [B.back])).mono ?_
      rintro e ws7 ⟨rfl, hb, hu⟩
      have hsz7 := Lib.hid hu.size
      have HB2 := Lib.hid hb
      have HU2 := Lib.hid (HU.out.trans hu (fun _ h => .inl h))
      clear hb hu HB HU
      have HB := HB2
      have HU := HU2
      clear HB2 HU2
      go_wp2_with fail
      refine (state_any g _ _ HB.out).mono ?_
      rintro e w102 ⟨rfl, rfl⟩
      go_wp2_with fail
      refine (since_any g _ _ HB.out).mono ?_
      rintro e w103 ⟨rfl, rfl⟩
      go_wp2_with fail
      refine (ask_to (n := 3) (b := ⟨2, u, p, 0⟩) (b2 := ⟨2, u, p, 0⟩) HB.out HBO2.out (by simp [B.ask, hle])).mono ?_
      rintro e ws8 ⟨rfl, hb, hu⟩
      have hsz8 := Lib.hid hu.size
      have HB2 := Lib.hid hb
      have HU2 := Lib.hid (HU.out.trans hu (fun _ h => .inl h))
      clear hb hu HB HU
      have HB := HB2
      have HU := HU2
      clear HB2 HU2
      go_wp2_with fail
      go_ret
      exact ⟨rfl, HU.out.below (by unfold At; omega)⟩
  · have HBO2 : Hid (B.ok ⟨2, u, p, 0⟩) := HBO
    go_wp2_with fail
    refine (state_any g _ _ HB.out).mono ?_
    rintro e w104 ⟨rfl, rfl⟩
    go_wp2_with fail
    refine (back_to (n := true) (b := ⟨3, u, p, 0⟩) (b2 := ⟨2, u, p, 0⟩) HB.out (by simp [B.back])).mono ?_
    rintro e ws9 ⟨rfl, hb, hu⟩
    have hsz9 := Lib.hid hu.size
    have HB2 := Lib.hid hb
    have HU2 := Lib.hid (HU.out.trans hu (fun _ h => .inl h))
    clear hb hu HB HU
    have HB := HB2
    have HU := HU2
    clear HB2 HU2
    by_cases hle : sadd u p ≤ t
    · skip
      go_wp2_with fail
      refine (state_any g _ _ HB.out).mono ?_
      rintro e w105 ⟨rfl, rfl⟩
      go_wp2_with fail
      refine (since_any g _ _ HB.out).mono ?_
      rintro e w106 ⟨rfl, rfl⟩
      go_wp2_with fail
      refine (ask_to (n := 2) (b := ⟨2, u, p, 0⟩) (b2 := ⟨3, u, p, 0⟩) HB.out HBO2.out (by simp [B.ask, hle])).mono ?_
      rintro e ws10 ⟨rfl, hb, hu⟩
      have hsz10 := Lib.hid hu.size
      have HB2 := Lib.hid hb
      have HU2 := Lib.hid (HU.out.trans hu (fun _ h => .inl h))
      clear hb hu HB HU
      have HB := HB2
      have HU := HU2
      clear HB2 HU2
      go_wp2_with fail
      refine (back_to (n := true) (b := ⟨3, u, p, 0⟩) (b2 := ⟨2, u, p, 0⟩) HB.out (by simp [B.back])).mono ?_
      rintro e ws11 ⟨rfl, hb, hu⟩
      have hsz11 := Lib.hid hu.size
      have HB2 := Lib.hid hb
      have HU2 := Lib.hid (HU.out.trans hu (fun _ h => .inl h))
      clear hb hu HB HU
      have HB := HB2
      have HU := HU2
      clear HB2 HU2
      go_wp2_with fail
      refine (state_any g _ _ HB.out).mono ?_
      rintro e w107 ⟨rfl, rfl⟩
      go_wp2_with fail
      refine (since_any g _ _ HB.out).mono ?_
      rintro e w108 ⟨rfl, rfl⟩
      go_wp2_with fail
      refine (ask_to (n := 2) (b := ⟨2, u, p, 0⟩) (b2 := ⟨3, u, p, 0⟩) HB.out HBO2.out (by simp [B.ask, hle])).mono ?_
      rintro e ws12 ⟨rfl, hb, hu⟩
      have hsz12 := Lib.hid hu.size
      have HB2 := Lib.hid hb
      have HU2 := Lib.hid (HU.out.trans hu (fun _ h => .inl h))
      clear hb hu HB HU
      have HB := HB2
      have HU := HU2
      clear HB2 HU2
      go_wp2_with fail
      go_ret
      exact ⟨rfl, HU.out.below (by unfold At; omega)⟩
    · skip
      go_wp2_with fail
      refine (state_any g _ _ HB.out).mono ?_
      rintro e w109 ⟨rfl, rfl⟩
      go_wp2_with fail
      refine (since_any g _ _ HB.out).mono ?_
      rintro e w110 ⟨rfl, rfl⟩
      go_wp2_with fail
      refine (ask_to (n := 3) (b := ⟨2, u, p, 0⟩) (b2 := ⟨2, u, p, 0⟩) HB.out HBO2.out (by simp [B.ask, hle])).mono ?_
      rintro e ws13 ⟨rfl, hb, hu⟩
      have hsz13 := Lib.hid hu.size
      have HB2 := Lib.hid hb
      have HU2 := Lib.hid (HU.out.trans hu (fun _ h => .inl h))
      clear hb hu HB HU
      have HB := HB2
      have HU := HU2
      clear HB2 HU2
      go_wp2_with fail
      refine (back_to (n := false) (b := ⟨2, u, p, 0⟩) (b2 := ⟨2, u, p, 0⟩) HB.out (by simp [B.back])).mono ?_
      rintro e ws14 ⟨rfl, hb, hu⟩
      have hsz14 := Lib.hid hu.size
      have HB2 := Lib.hid hb
      have HU2 := Lib.hid (HU.out.trans hu (fun _ h => .inl h))
      clear hb hu HB HU
      have HB := HB2
      have HU := HU2
      clear HB2 HU2
      go_wp2_with fail
      refine (state_any g _ _ HB.out).mono ?_
      rintro e w111 ⟨rfl, rfl⟩
      go_wp2_with fail
      refine (since_any g _ _ HB.out).mono ?_
      rintro e w112 ⟨rfl, rfl⟩
      go_wp2_with fail
      refine (ask_to (n := 3) (b := ⟨2, u, p, 0⟩) (b2 := ⟨2, u, p, 0⟩) HB.out HBO2.out (by simp [B.ask, hle])).mono ?_
      rintro e ws15 ⟨rfl, hb, hu⟩
      have hsz15 := Lib.hid hu.size
      have HB2 := Lib.hid hb
      have HU2 := Lib.hid (HU.out.trans hu (fun _ h => .inl h))
      clear hb hu HB HU
      have HB := HB2
      have HU := HU2
      clear HB2 HU2
      go_wp2_with fail
      go_ret
      exact ⟨rfl, HU.out.below (by unfold At; omega)⟩

theorem one_plain {s1 u p t : Int} (hb : B.ok ⟨s1, u, p, 0⟩) (ht : ok64 t) (hst : s1 = 1 ∨ s1 = 2 ∨ s1 = 3) :
    ∃ (b1 : B) (n : Bool) (u2 f : Int), B.trip ⟨s1, u, p, 0⟩ t = (b1, n) ∧ b1.ok ∧ B.ask b1 18446744073709551615 = (⟨3, u2, p, 0⟩, f) ∧ (f = 2 ∨ f = 3) := by
  obtain ⟨h1, h2⟩ := hb
  simp only at h1 h2
  rcases hst with rfl | rfl | rfl
  · have := (sadd_ok ht h2).2
    unfold top at this
    exact ⟨⟨2, t, p, 0⟩, true, t, 2, by simp [B.trip], ⟨ht, h2⟩, by simp [B.ask, this], .inl rfl⟩
  · have := (sadd_ok h1 h2).2
    unfold top at this
    exact ⟨⟨2, u, p, 0⟩, false, u, 2, by simp [B.trip], ⟨h1, h2⟩, by simp [B.ask, this], .inl rfl⟩
  · exact ⟨⟨3, u, p, 0⟩, false, u, 3, by simp [B.trip], ⟨h1, h2⟩, by simp [B.ask], .inr rfl⟩
theorem ask_ok {b b2 : B} {t n : Int} (hb : b.ok) (h : b.ask t = (b2, n)) : b2.ok := by
  have e : b2 = (b.ask t).1 := by rw [h]
  rw [e]
  obtain ⟨h1, h2⟩ := hb
  unfold B.ask
  repeat' split
  all_goals exact ⟨h1, h2⟩

set_option maxHeartbeats 4000000 in
theorem one_any (s : Int) (hs : ok64 s) (A : Option Addr) (len cap : Nat) (D : List Deed) (hD : D.length = len) (hm : len ≤ 9223372036854775807) (hok : ∀ d ∈ D, ok64 d.t) (A2 : Option Addr) (len2 cap2 : Nat) (T : List Int) (hl2 : T.length = len2) (hm2 : len2 ≤ 9223372036854775807) (w : World) (hr : DRows w A D) (ht2 : IRows w .u64 A2 T) :
    Calls Try.prog 5 #[.int .u64 s, .slice A len cap, .slice A2 len2 cap2] w fun e w' => e = .returned (.bool true) ∧ Below w.heap.size w w' := by
  have HS := Lib.hid hs
  have HR := Lib.hid hr
  have HOK := Lib.hid hok
  have HD := Lib.hid hD
  clear hs hr hok hD
  have HT2 := Lib.hid ht2
  have HT3 := Lib.hid hl2
  clear ht2 hl2
  go_enter Try.func5, Try.ntmps5
  go_wp2_with fail
  refine (awake_any _).mono ?_
  rintro e w1 ⟨rfl, hd1⟩
  have HU := Lib.hid (Upd.of_below hd1 (fun _ => False))
  have HR1 : Hid (DRows w1 A D) := HR.out.upd hd1
  have hsz1 := Lib.hid hd1.size
  clear hd1
  go_wp2_with fail
  refine (conf_any s 0 _ (by omega) (by omega)).mono ?_
  rintro e w2 ⟨rfl, hd⟩
  have HR2 : Hid (DRows w2 A D) := HR1.out.upd hd
  have HU2 := Lib.hid (HU.out.trans (Upd.of_below hd (fun _ => False)) (fun _ h => h.elim))
  clear hd HU HR1
  go_wp2_with fail
  refine (ran_any _ _ _ _ _ _ _ _ _ _ _ _ _ _ s 0 HS.out A len cap D HD.out hm HOK.out (Free) (⟨rfl, .inl rfl⟩) (fun b k t ok h => free_act b k t ok h) _ HR2.out).mono ?_
  rintro e w3 ⟨g, b, t, rfl, hb, hg, hbo, ht, hj, hd⟩
  have HB := Lib.hid hb
  have HU := Lib.hid ((HU2.out.trans (Upd.of_below hd (fun _ => False)) (fun _ h => h.elim)).mono (S' := At g) (fun _ h => h.elim))
  have hgw : w.heap.size ≤ g := by have := HU2.out.size; omega
  have HBO := Lib.hid hbo
  have HT := Lib.hid ht
  clear hb hd HU2 hg hbo ht
  obtain ⟨s1, u, p, q⟩ := b
  obtain ⟨rfl, hst⟩ : q = 0 ∧ (s1 = 1 ∨ s1 = 2 ∨ s1 = 3) := hj
  have hx : ∃ (b1 : B) (n : Bool) (u2 f : Int), B.trip ⟨s1, u, p, 0⟩ t = (b1, n) ∧ b1.ok ∧ B.ask b1 18446744073709551615 = (⟨3, u2, p, 0⟩, f) ∧ (f = 2 ∨ f = 3) := one_plain HBO.out HT.out hst
  obtain ⟨b1, n, u2, f, htr, hb1, hask, hf⟩ := hx
  have HTR := Lib.hid htr
  have HB1 := Lib.hid hb1
  have HASK := Lib.hid hask
  clear htr hb1 hask hst
  rcases hf with rfl | rfl
  · skip
    go_wp2_with fail
    refine (trip_to (n := n) (b := ⟨s1, u, p, 0⟩) (b2 := b1) HB.out (HTR.out)).mono ?_
    rintro e ws0 ⟨rfl, hb, hu⟩
    have hsz0 := Lib.hid hu.size
    have HB2 := Lib.hid hb
    have HU2 := Lib.hid (HU.out.trans hu (fun _ h => .inl h))
    clear hb hu HB HU
    have HB := HB2
    have HU := HU2
    clear HB2 HU2
    go_wp2_with fail
    refine (ask_to (n := 2) (b := b1) (b2 := ⟨3, u2, p, 0⟩) HB.out HB1.out (HASK.out)).mono ?_
    rintro e ws1 ⟨rfl, hb, hu⟩
    have hsz1 := Lib.hid hu.size
    have HB2 := Lib.hid hb
    have HU2 := Lib.hid (HU.out.trans hu (fun _ h => .inl h))
    clear hb hu HB HU
    have HB := HB2
    have HU := HU2
    clear HB2 HU2
    go_wp2_with fail
    refine (state_any g _ _ HB.out).mono ?_
    rintro e w90 ⟨rfl, rfl⟩
    go_wp2_with fail
    go_loopw [11] (fun i wr => ∃ k : Nat, k ≤ len2 ∧ i = .int .i64 k ∧ Hid (IsB wr g ⟨3, u2, p, 0⟩) ∧ Hid (Upd (At g) w wr)) (fun i _ => len2 - (intOf i).toNat)
    case atStart => exact ⟨0, Nat.zero_le _, rfl, HB, HU⟩
    case round =>
      obtain ⟨k, hk, rfl, hib, hu⟩ := hrel
      by_cases hlt : k < len2
      · obtain ⟨x, hx⟩ : ∃ x, T[k]? = some x := ⟨T[k]'(by rw [HT3.out]; exact hlt), List.getElem?_eq_getElem _⟩
        obtain ⟨ab, ao, rfl, hab, hc⟩ := HT2.out k x hx
        have q0 := (hu.out.cellq (p := ⟨ab, ao + k, none⟩) hab (by unfold At; show ¬ (ab = g); omega)).trans hc
        clear hx hc
        go_wp2_with fail
        refine (ask_to (n := 3) (b2 := ⟨3, u2, p, 0⟩) hib.out (ask_ok HB1.out HASK.out) (by simp [B.ask])).mono ?_
        rintro e w9 ⟨rfl, hb9, hu9⟩
        have HB9 := Lib.hid hb9
        have HU9 := Lib.hid (hu.out.trans hu9 (fun _ h => .inl h))
        clear hb9 hu9
        go_wp2_with fail
        go_roundw
        case rel => exact ⟨k + 1, by omega, by go_num, HB9, HU9⟩
        case measure => simp [intOf]; omega
      · go_wp2_with fail
        go_ret
        exact ⟨rfl, hu.out.below (by unfold At; omega)⟩
  · skip
    go_wp2_with fail
    refine (trip_to (n := n) (b := ⟨s1, u, p, 0⟩) (b2 := b1) HB.out (HTR.out)).mono ?_
    rintro e ws2 ⟨rfl, hb, hu⟩
    have hsz2 := Lib.hid hu.size
    have HB2 := Lib.hid hb
    have HU2 := Lib.hid (HU.out.trans hu (fun _ h => .inl h))
    clear hb hu HB HU
    have HB := HB2
    have HU := HU2
    clear HB2 HU2
    go_wp2_with fail
    refine (ask_to (n := 3) (b := b1) (b2 := ⟨3, u2, p, 0⟩) HB.out HB1.out (HASK.out)).mono ?_
    rintro e ws3 ⟨rfl, hb, hu⟩
    have hsz3 := Lib.hid hu.size
    have HB2 := Lib.hid hb
    have HU2 := Lib.hid (HU.out.trans hu (fun _ h => .inl h))
    clear hb hu HB HU
    have HB := HB2
    have HU := HU2
    clear HB2 HU2
    go_wp2_with fail
    refine (state_any g _ _ HB.out).mono ?_
    rintro e w91 ⟨rfl, rfl⟩
    go_wp2_with fail
    go_loopw [11] (fun i wr => ∃ k : Nat, k ≤ len2 ∧ i = .int .i64 k ∧ Hid (IsB wr g ⟨3, u2, p, 0⟩) ∧ Hid (Upd (At g) w wr)) (fun i _ => len2 - (intOf i).toNat)
    case atStart => exact ⟨0, Nat.zero_le _, rfl, HB, HU⟩
    case round =>
      obtain ⟨k, hk, rfl, hib, hu⟩ := hrel
      by_cases hlt : k < len2
      · obtain ⟨x, hx⟩ : ∃ x, T[k]? = some x := ⟨T[k]'(by rw [HT3.out]; exact hlt), List.getElem?_eq_getElem _⟩
        obtain ⟨ab, ao, rfl, hab, hc⟩ := HT2.out k x hx
        have q0 := (hu.out.cellq (p := ⟨ab, ao + k, none⟩) hab (by unfold At; show ¬ (ab = g); omega)).trans hc
        clear hx hc
        go_wp2_with fail
        refine (ask_to (n := 3) (b2 := ⟨3, u2, p, 0⟩) hib.out (ask_ok HB1.out HASK.out) (by simp [B.ask])).mono ?_
        rintro e w9 ⟨rfl, hb9, hu9⟩
        have HB9 := Lib.hid hb9
        have HU9 := Lib.hid (hu.out.trans hu9 (fun _ h => .inl h))
        clear hb9 hu9
        go_wp2_with fail
        go_roundw
        case rel => exact ⟨k + 1, by omega, by go_num, HB9, HU9⟩
        case measure => simp [intOf]; omega
      · go_wp2_with fail
        go_ret
        exact ⟨rfl, hu.out.below (by unfold At; omega)⟩

theorem one_walk (w : World) (s : Int) (ws : (Lit.int .u64 s).wf = true) (A : Option Addr) (len cap : Nat) (L : List (List Value)) (hL : L.length = len) (hlc : len ≤ cap) (hm : cap ≤ maxLen) (hok : ∀ row ∈ L, Oks [.int .i64, .int .u64, .bool] row) (hr : Rows w A 3 L)
    (A2 : Option Addr) (len2 cap2 : Nat) (L2 : List (List Value)) (hL2 : L2.length = len2) (hlc2 : len2 ≤ cap2) (hm2 : cap2 ≤ maxLen) (hok2 : ∀ row ∈ L2, Oks [.int .u64] row) (hr2 : Rows w A2 1 L2) :
    Calls Try.prog 5 #[.int .u64 s, .slice A len cap, .slice A2 len2 cap2] w fun e w' => e = .returned (.bool true) ∧ Below w.heap.size w w' := by
  obtain ⟨D, hD, hd, hdr⟩ := deeds_of hL hok hr
  obtain ⟨T, hT, _, htr⟩ := ints_of hL2 hok2 hr2
  unfold maxLen at hm hm2
  exact one_any s (bounds_u64 ws) A len cap D hD (by omega) hd A2 len2 cap2 T hT (by omega) w hdr htr
theorem forced_walk (w : World) (s : Int) (ws : (Lit.int .u64 s).wf = true) (A : Option Addr) (len cap : Nat) (L : List (List Value)) (hL : L.length = len) (hlc : len ≤ cap) (hm : cap ≤ maxLen) (hok : ∀ row ∈ L, Oks [.int .i64, .int .u64, .bool] row) (hr : Rows w A 3 L) (op : Bool) :
    Calls Try.prog 6 #[.int .u64 s, .slice A len cap, .bool op] w fun e w' => e = .returned (.bool true) ∧ Below w.heap.size w w' := by
  obtain ⟨D, hD, hd, hdr⟩ := deeds_of hL hok hr
  unfold maxLen at hm
  exact forced_any s (bounds_u64 ws) A len cap D hD (by omega) hd op w hdr
theorem back_walk (w : World) (s : Int) (ws : (Lit.int .u64 s).wf = true) (A : Option Addr) (len cap : Nat) (L : List (List Value)) (hL : L.length = len) (hlc : len ≤ cap) (hm : cap ≤ maxLen) (hok : ∀ row ∈ L, Oks [.int .i64, .int .u64, .bool] row) (hr : Rows w A 3 L) :
    Calls Try.prog 7 #[.int .u64 s, .slice A len cap] w fun e w' => e = .returned (.bool true) ∧ Below w.heap.size w w' := by
  obtain ⟨D, hD, hd, hdr⟩ := deeds_of hL hok hr
  unfold maxLen at hm
  exact back_law s (bounds_u64 ws) A len cap D hD (by omega) hd w hdr
end Go.Proofs.Ytmihigkkicgkdaa
