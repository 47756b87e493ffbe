/- CacheNone. -/
import Derived.Test.YtninaaolbgchpaaRn
namespace Go.Proofs.Ytninaaolbgchpaa
open Go.RowKit
set_option linter.unusedVariables false
set_option linter.unusedSimpArgs false

def SI (M : Int) (s : List En × List J2) : Prop := (∀ e ∈ s.1, e.k.1 ≠ 0 ∧ e.id < M) ∧ ∀ p ∈ s.2, p.1 < M
theorem SI.deed {M : Int} {s : List En × List J2} (h : SI M s) (kd id : Int) (k t : K3) (hid : id < M) : SI M (dE s.1 kd id k t, dJ s.1 s.2 kd id k) := by
  obtain ⟨h1, h2⟩ := h
  refine ⟨fun e he => ?_, fun p hp => ?_⟩
  · simp only at he
    unfold dE at he
    split at he
    · unfold zE at he
      split at he
      · exact h1 e he
      · rename_i hk
        unfold askE at he
        split at he
        · exact h1 e he
        · rcases List.mem_append.1 he with he | he
          · exact h1 e he
          · simp at he
            subst he
            exact ⟨hk, hid⟩
    · split at he
      · obtain ⟨x, hx, rfl⟩ := List.mem_map.1 he
        have := h1 x hx
        split
        · exact this
        · exact this
      · exact h1 e (List.mem_filter.1 he).1
  · simp only at hp
    unfold dJ at hp
    split at hp
    · unfold zJ at hp
      split at hp
      · exact h2 p hp
      · unfold askJ at hp
        split at hp
        · rename_i l he
          rcases List.mem_append.1 hp with hp | hp
          · exact h2 p hp
          · simp at hp
            subst hp
            exact (h1 _ (entK_some he).1).2
        · exact h2 p hp
    · split at hp
      · exact h2 p (List.mem_filter.1 hp).1
      · exact h2 p hp
theorem SI.fold {M : Int} : ∀ (l : List D8) (s : List En × List J2), SI M s → (∀ x ∈ l, x.2.1 < M) → SI M (l.foldl (fun s x => (dE s.1 x.1 x.2.1 x.2.2.1 x.2.2.2, dJ s.1 s.2 x.1 x.2.1 x.2.2.1)) s)
  | [], s, h, _ => h
  | x :: l, s, h, hl => SI.fold l _ (h.deed x.1 x.2.1 x.2.2.1 x.2.2.2 (hl x (by simp))) (fun y hy => hl y (by simp [hy]))
theorem SI.st {M : Int} (l : List D8) (h : ∀ x ∈ l, x.2.1 < M) : SI M (st (l.take 100)) := SI.fold (M := M) (l.take 100) ([], []) (And.intro (fun e he => absurd he (List.not_mem_nil)) (fun p hp => absurd hp (List.not_mem_nil))) (fun x hx => h x (List.mem_of_mem_take hx))
theorem setL_none {M : Int} {s : List En × List J2} (h : SI M s) : setL s.2 M = [] := by
  unfold setL
  rw [List.filter_eq_nil_iff.2 (fun p hp => by have := h.2 p hp; simp; omega)]
  rfl
theorem clo_zero {M : Int} {s : List En × List J2} (h : SI M s) (id : Int) (t : K3) : (cloE (setE s.1 id t) 0).length = s.1.length := by
  unfold cloE
  rw [List.filter_eq_self.2, setE_len]
  intro e he
  obtain ⟨x, hx, rfl⟩ := List.mem_map.1 he
  have := (h.1 x hx).1
  split <;> simpa using this
theorem e8_dec (row : List Value) (h : Oks [.int .i64, .int .i64, .int .i64, .int .i64, .bool, .int .i64, .int .i64, .int .i64] row) : ∃ k1 k2 k3 id t1 t2 t3 : Int, ∃ dn : Bool, row = [.int .i64 k1, .int .i64 k2, .int .i64 k3, .int .i64 id, .bool dn, .int .i64 t1, .int .i64 t2, .int .i64 t3] ∧ kok (k1, k2, k3) := by
  obtain ⟨v0, r0, e0, ⟨a0, rfl, h0⟩, g0⟩ := h.cons
  obtain ⟨v1, r1, e1, ⟨a1, rfl, h1⟩, g1⟩ := g0.cons
  obtain ⟨v2, r2, e2, ⟨a2, rfl, h2⟩, g2⟩ := g1.cons
  obtain ⟨v3, r3, e3, ⟨a3, rfl, h3⟩, g3⟩ := g2.cons
  obtain ⟨v4, r4, e4, ⟨a4, rfl⟩, g4⟩ := g3.cons
  obtain ⟨v5, r5, e5, ⟨a5, rfl, h5⟩, g5⟩ := g4.cons
  obtain ⟨v6, r6, e6, ⟨a6, rfl, h6⟩, g6⟩ := g5.cons
  obtain ⟨v7, r7, e7, ⟨a7, rfl, h7⟩, g7⟩ := g6.cons
  have := g7.nil
  subst this
  exact ⟨a0, a1, a2, a3, a5, a6, a7, a4, by rw [e0, e1, e2, e3, e4, e5, e6, e7], h0, h1, h2⟩
theorem ids_more {l : List D8} {k : Nat} {x : D8} {M : Int} (h : l.take (k + 1) = l.take k ++ [x]) (h1 : ∀ x ∈ l.take k, x.2.1 < M) (h2 : x.2.1 < M) : ∀ x ∈ l.take (k + 1), x.2.1 < M := by
  intro y hy
  rw [h] at hy
  rcases List.mem_append.1 hy with hy | hy
  · exact h1 y hy
  · simp at hy
    subst hy
    exact h2
theorem ask_e {base g bk bj N : Nat} {F : Nat → Prop} {E E' : List En} {J J' : List J2} {k t : K3} {id a : Int} (hk : kok k) (hid : iok id) (hN : N < 1000) (hE : zE E k id = E') (hJ : zJ E J k id = J') (ha : zA E k = a) (ht : zT E k = t) (w : World) (hp : CS w base g bk bj F E J N) :
    Calls Try.prog 15 #[.pointer (some ⟨g, 0, none⟩), kval k, .int .i64 id] w fun e w' => e = .returned (.tuple #[.int .i64 a, kval t]) ∧ (∃ F', CS w' base g bk bj F' E' J' (N + 1) ∧ ∀ x, F' x → F x ∨ w.heap.size ≤ x) ∧ Upd F w w' := by
  subst hE hJ ha ht
  exact ask_one hk hid hN w hp
set_option maxHeartbeats 8000000 in
set_option maxRecDepth 100000 in
theorem cnone_any (L : Option Addr) (len cap : Nat) (l : List D8) (hl : l.length = len) (hm : len ≤ 9223372036854775807) (hwf : ∀ x ∈ l, dok x) (k1 k2 k3 id t1 t2 t3 : Int) (dn : Bool) (hk : kok (k1, k2, k3)) (w : World) (hs : Sl w L len cap (fl d8 l)) :
    Calls Try.prog 6 #[.slice L len cap, .agg #[.int .i64 k1, .int .i64 k2, .int .i64 k3, .int .i64 id, .bool dn, .int .i64 t1, .int .i64 t2, .int .i64 t3]] w fun e w' => e = .returned (.bool true) ∧ Below w.heap.size w w' := by
  have HL := Lib.hid hl
  have HWF := Lib.hid hwf
  have HS := Lib.hid hs
  have HK : Hid (kok (0, k2, k3)) := Lib.hid ⟨(iok_of (x := 0) (by decide) (by decide)), hk.2⟩
  clear hl hwf hs hk
  have hI : ∀ x : Int, -4611686018427387904 ≤ x → x ≤ 4611686018427387904 → iok x := fun x h1 h2 => iok_of h1 h2
  go_enter Try.func6, Try.ntmps6
  have U0 : Hid (Upd (fun _ => False) w w) := Lib.hid (Upd.refl _ w)
  go_wp2_with fail
  refine Calls.gen (fun W => Upd (fun _ => False) w W ∧ Blk W (w.heap.size) 41 #[.int .i64 k1, .int .i64 k2, .int .i64 k3, .int .i64 id, .bool dn, .int .i64 t1, .int .i64 t2, .int .i64 t3]) ⟨(by repeat (first | exact Upd.refl _ _ | refine Upd.alloc ?_ _ | refine Upd.drew ?_ | refine Upd.drewN ?_ _ | refine Upd.put ?_ _ _)), by repeat (first | exact Blk.new _ _ _ | exact Blk.new1 _ _ _ _ | exact Blk.new2 _ _ _ _ _ | exact Blk.new3 _ _ _ _ _ _ | refine Blk.alloc ?_ _ | refine Blk.drew ?_)⟩ (fun w1 hW => ?_)
  obtain ⟨hu, hb0⟩ := hW
  have U1 := Lib.hid (U0.out.trans hu (fun _ h => h.elim))
  have Be1 := Lib.hid hb0
  clear hu hb0 U0
  refine (awake_to _).mono ?_
  rintro e_ w2 ⟨rfl, hu⟩
  have U2 := Lib.hid (U1.out.trans hu (fun _ h => h.elim))
  have Be2 := Lib.hid (Be1.out.upd hu (fun h => h))
  clear hu U1 Be1
  have e0_ : w2.cell? ⟨w.heap.size, 0, none⟩ = some (.int .i64 k1) := Be2.out.cell 0
  have e1_ : w2.cell? ⟨w.heap.size, 1, none⟩ = some (.int .i64 k2) := Be2.out.cell 1
  have e2_ : w2.cell? ⟨w.heap.size, 2, none⟩ = some (.int .i64 k3) := Be2.out.cell 2
  have e3_ : w2.cell? ⟨w.heap.size, 3, none⟩ = some (.int .i64 id) := Be2.out.cell 3
  have e4_ : w2.cell? ⟨w.heap.size, 4, none⟩ = some (.bool dn) := Be2.out.cell 4
  have e5_ : w2.cell? ⟨w.heap.size, 5, none⟩ = some (.int .i64 t1) := Be2.out.cell 5
  have e6_ : w2.cell? ⟨w.heap.size, 6, none⟩ = some (.int .i64 t2) := Be2.out.cell 6
  have e7_ : w2.cell? ⟨w.heap.size, 7, none⟩ = some (.int .i64 t3) := Be2.out.cell 7
  have el_ := Be2.out.lt
  go_wp2_with fail
  clear e0_ e1_ e2_ e3_ e4_ e5_ e6_ e7_ el_
  go_loopw [6] (fun iv wr => ∃ (k : Nat), k ≤ len ∧ iv = .int .i64 k ∧ Hid (∀ x ∈ l.take k, x.2.1 < 1099511627776) ∧ Hid (Upd (fun _ => False) w2 wr)) (fun iv _ => len - (intOf iv).toNat)
  case atStart => exact ⟨0, Nat.zero_le _, rfl, Lib.hid (fun x hx => by simp at hx), Lib.hid (Upd.refl _ _)⟩
  case round =>
    obtain ⟨k, hk, rfl, HALL, HV⟩ := hrel
    have i0 : (0 : Int) ≤ (k : Int) := Int.natCast_nonneg _
    by_cases hkn : k < len
    · obtain ⟨x, hx⟩ : ∃ x, l[k]? = some x := ⟨l[k]'(by rw [HL.out]; exact hkn), List.getElem?_eq_getElem _⟩
      have i1 : (k : Int) < (len : Int) := by omega
      obtain ⟨b, o, hA', hb, hc⟩ := (HS.out.upd0 (U2.out.trans HV.out (fun _ h => h.elim))).row d8_len (by decide) hx
      have c1 : wr.cell? ⟨b, o + k * 8 + 1, none⟩ = some (.int .i64 x.2.1) := hc 1 _ rfl
      have HT := Lib.hid (take_snoc hx)
      subst hA'
      clear hc hx
      by_cases hq : x.2.1 < 1099511627776
      · have hq1 : ¬ x.2.1 ≥ 1099511627776 := by omega
        have HQ := Lib.hid hq
        clear hq
        go_wp2
        go_roundw
        case rel => exact ⟨k + 1, by omega, by go_num, Lib.hid (ids_more HT.out HALL.out HQ.out), HV⟩
        case measure => simp [intOf]; omega
      · have hq1 : x.2.1 ≥ 1099511627776 := by omega
        clear hq
        go_wp2
        go_ret
        exact ⟨rfl, (U2.out.trans HV.out (fun _ h => h.elim)).below0⟩
    · obtain rfl : k = len := by omega
      have HAL : Hid (∀ x ∈ l, x.2.1 < 1099511627776) := Lib.hid (fun x hx => HALL.out x (by rw [List.take_of_length_le (by rw [HL.out]; exact Nat.le_refl _)]; exact hx))
      clear HALL
      obtain ⟨w3, hww⟩ : ∃ z, z = wr := ⟨_, rfl⟩
      subst hww
      have hv := HV.out
      have U3 := Lib.hid (U2.out.trans hv (fun _ h => h.elim))
      have Be3 := Lib.hid (Be2.out.upd hv (fun h => h))
      clear hv HV U2 Be2
      have e0_ : w3.cell? ⟨w.heap.size, 0, none⟩ = some (.int .i64 k1) := Be3.out.cell 0
      have e1_ : w3.cell? ⟨w.heap.size, 1, none⟩ = some (.int .i64 k2) := Be3.out.cell 1
      have e2_ : w3.cell? ⟨w.heap.size, 2, none⟩ = some (.int .i64 k3) := Be3.out.cell 2
      have e3_ : w3.cell? ⟨w.heap.size, 3, none⟩ = some (.int .i64 id) := Be3.out.cell 3
      have e4_ : w3.cell? ⟨w.heap.size, 4, none⟩ = some (.bool dn) := Be3.out.cell 4
      have e5_ : w3.cell? ⟨w.heap.size, 5, none⟩ = some (.int .i64 t1) := Be3.out.cell 5
      have e6_ : w3.cell? ⟨w.heap.size, 6, none⟩ = some (.int .i64 t2) := Be3.out.cell 6
      have e7_ : w3.cell? ⟨w.heap.size, 7, none⟩ = some (.int .i64 t3) := Be3.out.cell 7
      have el_ := Be3.out.lt
      go_wp2_with fail
      clear e0_ e1_ e2_ e3_ e4_ e5_ e6_ e7_ el_
      refine Calls.gen (fun W => Upd (fun _ => False) w3 W ∧ Blk W (w3.heap.size) 35 #[.int .i64 t1, .int .i64 t2, .int .i64 t3]) ⟨(by repeat (first | exact Upd.refl _ _ | refine Upd.alloc ?_ _ | refine Upd.drew ?_ | refine Upd.drewN ?_ _ | refine Upd.put ?_ _ _)), by repeat (first | exact Blk.new _ _ _ | exact Blk.new1 _ _ _ _ | exact Blk.new2 _ _ _ _ _ | exact Blk.new3 _ _ _ _ _ _ | refine Blk.alloc ?_ _ | refine Blk.drew ?_)⟩ (fun w4 hW => ?_)
      obtain ⟨hu, hb0⟩ := hW
      have U4 := Lib.hid (U3.out.trans hu (fun _ h => h.elim))
      have Be4 := Lib.hid (Be3.out.upd hu (fun h => h))
      have Bt4 := Lib.hid hb0
      clear hu hb0 U3 Be3
      refine (ran_to L k cap l HL.out hm HWF.out _ (HS.out.upd0 U4.out)).mono ?_
      rintro e_ w5 ⟨gg, bk, bj, F5, rfl, hp, hu⟩
      have HB : Hid (w.heap.size ≤ w4.heap.size) := Lib.hid U4.out.size
      have U5 := Lib.hid (U4.out.trans hu (fun _ h => h.elim))
      have P5 := Lib.hid hp
      have Be5 := Lib.hid (Be4.out.upd hu (fun h => h))
      have Ne5 := Lib.hid (hp.nlow Be4.out.lt)
      have Bt5 := Lib.hid (Bt4.out.upd hu (fun h => h))
      have Nt5 := Lib.hid (hp.nlow Bt4.out.lt)
      clear hu hp U4 Be4 Bt4
      have HI := Lib.hid (SI.st l HAL.out)
      rcases hst : st (l.take 100) with ⟨E, J⟩
      rw [hst] at P5 HI
      simp only at P5 HI
      clear hst
      have HEL : Hid (E.length ≤ 100) := Lib.hid P5.out.len_le
      have e0_ : w5.cell? ⟨w.heap.size, 0, none⟩ = some (.int .i64 k1) := Be5.out.cell 0
      have e1_ : w5.cell? ⟨w.heap.size, 1, none⟩ = some (.int .i64 k2) := Be5.out.cell 1
      have e2_ : w5.cell? ⟨w.heap.size, 2, none⟩ = some (.int .i64 k3) := Be5.out.cell 2
      have e3_ : w5.cell? ⟨w.heap.size, 3, none⟩ = some (.int .i64 id) := Be5.out.cell 3
      have e4_ : w5.cell? ⟨w.heap.size, 4, none⟩ = some (.bool dn) := Be5.out.cell 4
      have e5_ : w5.cell? ⟨w.heap.size, 5, none⟩ = some (.int .i64 t1) := Be5.out.cell 5
      have e6_ : w5.cell? ⟨w.heap.size, 6, none⟩ = some (.int .i64 t2) := Be5.out.cell 6
      have e7_ : w5.cell? ⟨w.heap.size, 7, none⟩ = some (.int .i64 t3) := Be5.out.cell 7
      have el_ := Be5.out.lt
      have t0_ : w5.cell? ⟨w3.heap.size, 0, none⟩ = some (.int .i64 t1) := Bt5.out.cell 0
      have t1_ : w5.cell? ⟨w3.heap.size, 1, none⟩ = some (.int .i64 t2) := Bt5.out.cell 1
      have t2_ : w5.cell? ⟨w3.heap.size, 2, none⟩ = some (.int .i64 t3) := Bt5.out.cell 2
      have tl_ := Bt5.out.lt
      go_wp2_with fail
      clear e0_ e1_ e2_ e3_ e4_ e5_ e6_ e7_ el_ t0_ t1_ t2_ tl_
      refine (len_to _ P5.out).mono ?_
      rintro e_ w6 ⟨rfl, hu⟩
      have U6 := Lib.hid (U5.out.trans hu (fun _ h => h.elim))
      have P6 := Lib.hid (P5.out.upd0 hu)
      have Be6 := Lib.hid (Be5.out.upd hu (fun h => h))
      have Ne6 := Ne5
      have Bt6 := Lib.hid (Bt5.out.upd hu (fun h => h))
      have Nt6 := Nt5
      clear hu U5 P5 Be5 Bt5 Ne5 Nt5
      have e0_ : w6.cell? ⟨w.heap.size, 0, none⟩ = some (.int .i64 k1) := Be6.out.cell 0
      have e1_ : w6.cell? ⟨w.heap.size, 1, none⟩ = some (.int .i64 k2) := Be6.out.cell 1
      have e2_ : w6.cell? ⟨w.heap.size, 2, none⟩ = some (.int .i64 k3) := Be6.out.cell 2
      have e3_ : w6.cell? ⟨w.heap.size, 3, none⟩ = some (.int .i64 id) := Be6.out.cell 3
      have e4_ : w6.cell? ⟨w.heap.size, 4, none⟩ = some (.bool dn) := Be6.out.cell 4
      have e5_ : w6.cell? ⟨w.heap.size, 5, none⟩ = some (.int .i64 t1) := Be6.out.cell 5
      have e6_ : w6.cell? ⟨w.heap.size, 6, none⟩ = some (.int .i64 t2) := Be6.out.cell 6
      have e7_ : w6.cell? ⟨w.heap.size, 7, none⟩ = some (.int .i64 t3) := Be6.out.cell 7
      have el_ := Be6.out.lt
      have t0_ : w6.cell? ⟨w3.heap.size, 0, none⟩ = some (.int .i64 t1) := Bt6.out.cell 0
      have t1_ : w6.cell? ⟨w3.heap.size, 1, none⟩ = some (.int .i64 t2) := Bt6.out.cell 1
      have t2_ : w6.cell? ⟨w3.heap.size, 2, none⟩ = some (.int .i64 t3) := Bt6.out.cell 2
      have tl_ := Bt6.out.lt
      go_wp2_with fail
      clear e0_ e1_ e2_ e3_ e4_ e5_ e6_ e7_ el_ t0_ t1_ t2_ tl_
      refine Calls.gen (fun W => Upd (fun _ => False) w6 W ∧ Blk W (w6.heap.size) 47 #[.int .i64 0, .int .i64 k2, .int .i64 k3]) ⟨(by repeat (first | exact Upd.refl _ _ | refine Upd.alloc ?_ _ | refine Upd.drew ?_ | refine Upd.drewN ?_ _ | refine Upd.put ?_ _ _)), by repeat (first | exact Blk.new _ _ _ | exact Blk.new1 _ _ _ _ | exact Blk.new2 _ _ _ _ _ | exact Blk.new3 _ _ _ _ _ _ | refine Blk.alloc ?_ _ | refine Blk.drew ?_)⟩ (fun w7 hW => ?_)
      obtain ⟨hu, hb0⟩ := hW
      have U7 := Lib.hid (U6.out.trans hu (fun _ h => h.elim))
      have P7 := Lib.hid (P6.out.upd0 hu)
      have Be7 := Lib.hid (Be6.out.upd hu (fun h => h))
      have Ne7 := Ne6
      have Bt7 := Lib.hid (Bt6.out.upd hu (fun h => h))
      have Nt7 := Nt6
      have Bk7 := Lib.hid hb0
      have Nk7 := Lib.hid (P6.out.nb (b := w6.heap.size) (by omega))
      clear hu hb0 U6 P6 Be6 Bt6 Ne6 Nt6
      refine (ask_e (k := (0, k2, k3)) (id := 1099511627776) (E' := E) (J' := J) (a := 1) (t := (0, 0, 0)) HK.out (hI _ (by decide) (by decide)) (by decide) rfl rfl rfl rfl _ P7.out).mono ?_
      rintro e_ w8 ⟨rfl, ⟨F8, hp, hf⟩, hu⟩
      have U8 := Lib.hid (upd_step U7.out P7.out HB.out hu)
      have P8 := Lib.hid hp
      have Be8 := Lib.hid (Be7.out.upd hu Ne7.out)
      have Ne8 := Lib.hid (nb_step hf Be7.out Ne7.out)
      have Bt8 := Lib.hid (Bt7.out.upd hu Nt7.out)
      have Nt8 := Lib.hid (nb_step hf Bt7.out Nt7.out)
      have Bk8 := Lib.hid (Bk7.out.upd hu Nk7.out)
      have Nk8 := Lib.hid (nb_step hf Bk7.out Nk7.out)
      clear hu hp hf  U7 P7 Be7 Bt7 Bk7 Ne7 Nt7 Nk7
      have e0_ : w8.cell? ⟨w.heap.size, 0, none⟩ = some (.int .i64 k1) := Be8.out.cell 0
      have e1_ : w8.cell? ⟨w.heap.size, 1, none⟩ = some (.int .i64 k2) := Be8.out.cell 1
      have e2_ : w8.cell? ⟨w.heap.size, 2, none⟩ = some (.int .i64 k3) := Be8.out.cell 2
      have e3_ : w8.cell? ⟨w.heap.size, 3, none⟩ = some (.int .i64 id) := Be8.out.cell 3
      have e4_ : w8.cell? ⟨w.heap.size, 4, none⟩ = some (.bool dn) := Be8.out.cell 4
      have e5_ : w8.cell? ⟨w.heap.size, 5, none⟩ = some (.int .i64 t1) := Be8.out.cell 5
      have e6_ : w8.cell? ⟨w.heap.size, 6, none⟩ = some (.int .i64 t2) := Be8.out.cell 6
      have e7_ : w8.cell? ⟨w.heap.size, 7, none⟩ = some (.int .i64 t3) := Be8.out.cell 7
      have el_ := Be8.out.lt
      have t0_ : w8.cell? ⟨w3.heap.size, 0, none⟩ = some (.int .i64 t1) := Bt8.out.cell 0
      have t1_ : w8.cell? ⟨w3.heap.size, 1, none⟩ = some (.int .i64 t2) := Bt8.out.cell 1
      have t2_ : w8.cell? ⟨w3.heap.size, 2, none⟩ = some (.int .i64 t3) := Bt8.out.cell 2
      have tl_ := Bt8.out.lt
      have k0_ : w8.cell? ⟨w6.heap.size, 0, none⟩ = some (.int .i64 0) := Bk8.out.cell 0
      have k1_ : w8.cell? ⟨w6.heap.size, 1, none⟩ = some (.int .i64 k2) := Bk8.out.cell 1
      have k2_ : w8.cell? ⟨w6.heap.size, 2, none⟩ = some (.int .i64 k3) := Bk8.out.cell 2
      have kl_ := Bk8.out.lt
      go_wp2_with fail
      clear e0_ e1_ e2_ e3_ e4_ e5_ e6_ e7_ el_ t0_ t1_ t2_ tl_ k0_ k1_ k2_ kl_
      refine Calls.gen (fun W => Upd (fun _ => False) w8 W ∧ Blk W (w8.heap.size) 44 #[.int .i64 0, .int .i64 0, .int .i64 0]) ⟨(by repeat (first | exact Upd.refl _ _ | refine Upd.alloc ?_ _ | refine Upd.drew ?_ | refine Upd.drewN ?_ _ | refine Upd.put ?_ _ _)), by repeat (first | exact Blk.new _ _ _ | exact Blk.new1 _ _ _ _ | exact Blk.new2 _ _ _ _ _ | exact Blk.new3 _ _ _ _ _ _ | refine Blk.alloc ?_ _ | refine Blk.drew ?_)⟩ (fun w9 hW => ?_)
      obtain ⟨hu, hb0⟩ := hW
      have U9 := Lib.hid (U8.out.trans hu (fun _ h => h.elim))
      have P9 := Lib.hid (P8.out.upd0 hu)
      have Be9 := Lib.hid (Be8.out.upd hu (fun h => h))
      have Ne9 := Ne8
      have Bt9 := Lib.hid (Bt8.out.upd hu (fun h => h))
      have Nt9 := Nt8
      have Bk9 := Lib.hid (Bk8.out.upd hu (fun h => h))
      have Nk9 := Nk8
      clear hu hb0 U8 P8 Be8 Bt8 Bk8 Ne8 Nt8 Nk8
      refine (ask_e (k := (0, k2, k3)) (id := 1099511627777) (E' := E) (J' := J) (a := 1) (t := (0, 0, 0)) HK.out (hI _ (by decide) (by decide)) (by decide) rfl rfl rfl rfl _ P9.out).mono ?_
      rintro e_ w10 ⟨rfl, ⟨F10, hp, hf⟩, hu⟩
      have U10 := Lib.hid (upd_step U9.out P9.out HB.out hu)
      have P10 := Lib.hid hp
      have Be10 := Lib.hid (Be9.out.upd hu Ne9.out)
      have Ne10 := Lib.hid (nb_step hf Be9.out Ne9.out)
      have Bt10 := Lib.hid (Bt9.out.upd hu Nt9.out)
      have Nt10 := Lib.hid (nb_step hf Bt9.out Nt9.out)
      have Bk10 := Lib.hid (Bk9.out.upd hu Nk9.out)
      have Nk10 := Lib.hid (nb_step hf Bk9.out Nk9.out)
      clear hu hp hf  U9 P9 Be9 Bt9 Bk9 Ne9 Nt9 Nk9
      have e0_ : w10.cell? ⟨w.heap.size, 0, none⟩ = some (.int .i64 k1) := Be10.out.cell 0
      have e1_ : w10.cell? ⟨w.heap.size, 1, none⟩ = some (.int .i64 k2) := Be10.out.cell 1
      have e2_ : w10.cell? ⟨w.heap.size, 2, none⟩ = some (.int .i64 k3) := Be10.out.cell 2
      have e3_ : w10.cell? ⟨w.heap.size, 3, none⟩ = some (.int .i64 id) := Be10.out.cell 3
      have e4_ : w10.cell? ⟨w.heap.size, 4, none⟩ = some (.bool dn) := Be10.out.cell 4
      have e5_ : w10.cell? ⟨w.heap.size, 5, none⟩ = some (.int .i64 t1) := Be10.out.cell 5
      have e6_ : w10.cell? ⟨w.heap.size, 6, none⟩ = some (.int .i64 t2) := Be10.out.cell 6
      have e7_ : w10.cell? ⟨w.heap.size, 7, none⟩ = some (.int .i64 t3) := Be10.out.cell 7
      have el_ := Be10.out.lt
      have t0_ : w10.cell? ⟨w3.heap.size, 0, none⟩ = some (.int .i64 t1) := Bt10.out.cell 0
      have t1_ : w10.cell? ⟨w3.heap.size, 1, none⟩ = some (.int .i64 t2) := Bt10.out.cell 1
      have t2_ : w10.cell? ⟨w3.heap.size, 2, none⟩ = some (.int .i64 t3) := Bt10.out.cell 2
      have tl_ := Bt10.out.lt
      have k0_ : w10.cell? ⟨w6.heap.size, 0, none⟩ = some (.int .i64 0) := Bk10.out.cell 0
      have k1_ : w10.cell? ⟨w6.heap.size, 1, none⟩ = some (.int .i64 k2) := Bk10.out.cell 1
      have k2_ : w10.cell? ⟨w6.heap.size, 2, none⟩ = some (.int .i64 k3) := Bk10.out.cell 2
      have kl_ := Bk10.out.lt
      go_wp2_with fail
      clear e0_ e1_ e2_ e3_ e4_ e5_ e6_ e7_ el_ t0_ t1_ t2_ tl_ k0_ k1_ k2_ kl_
      refine Calls.gen (fun W => Upd (fun _ => False) w10 W ∧ Blk W (w10.heap.size) 44 #[.int .i64 0, .int .i64 0, .int .i64 0]) ⟨(by repeat (first | exact Upd.refl _ _ | refine Upd.alloc ?_ _ | refine Upd.drew ?_ | refine Upd.drewN ?_ _ | refine Upd.put ?_ _ _)), by repeat (first | exact Blk.new _ _ _ | exact Blk.new1 _ _ _ _ | exact Blk.new2 _ _ _ _ _ | exact Blk.new3 _ _ _ _ _ _ | refine Blk.alloc ?_ _ | refine Blk.drew ?_)⟩ (fun w11 hW => ?_)
      obtain ⟨hu, hb0⟩ := hW
      have U11 := Lib.hid (U10.out.trans hu (fun _ h => h.elim))
      have P11 := Lib.hid (P10.out.upd0 hu)
      have Be11 := Lib.hid (Be10.out.upd hu (fun h => h))
      have Ne11 := Ne10
      have Bt11 := Lib.hid (Bt10.out.upd hu (fun h => h))
      have Nt11 := Nt10
      have Bk11 := Lib.hid (Bk10.out.upd hu (fun h => h))
      have Nk11 := Nk10
      clear hu hb0 U10 P10 Be10 Bt10 Bk10 Ne10 Nt10 Nk10
      refine (told_to (t1, t2, t3) _).mono ?_
      rintro e_ w12 ⟨rfl, hu⟩
      have U12 := Lib.hid (U11.out.trans hu (fun _ h => h.elim))
      have P12 := Lib.hid (P11.out.upd0 hu)
      have Be12 := Lib.hid (Be11.out.upd hu (fun h => h))
      have Ne12 := Ne11
      have Bt12 := Lib.hid (Bt11.out.upd hu (fun h => h))
      have Nt12 := Nt11
      have Bk12 := Lib.hid (Bk11.out.upd hu (fun h => h))
      have Nk12 := Nk11
      clear hu U11 P11 Be11 Bt11 Bk11 Ne11 Nt11 Nk11
      have e0_ : w12.cell? ⟨w.heap.size, 0, none⟩ = some (.int .i64 k1) := Be12.out.cell 0
      have e1_ : w12.cell? ⟨w.heap.size, 1, none⟩ = some (.int .i64 k2) := Be12.out.cell 1
      have e2_ : w12.cell? ⟨w.heap.size, 2, none⟩ = some (.int .i64 k3) := Be12.out.cell 2
      have e3_ : w12.cell? ⟨w.heap.size, 3, none⟩ = some (.int .i64 id) := Be12.out.cell 3
      have e4_ : w12.cell? ⟨w.heap.size, 4, none⟩ = some (.bool dn) := Be12.out.cell 4
      have e5_ : w12.cell? ⟨w.heap.size, 5, none⟩ = some (.int .i64 t1) := Be12.out.cell 5
      have e6_ : w12.cell? ⟨w.heap.size, 6, none⟩ = some (.int .i64 t2) := Be12.out.cell 6
      have e7_ : w12.cell? ⟨w.heap.size, 7, none⟩ = some (.int .i64 t3) := Be12.out.cell 7
      have el_ := Be12.out.lt
      have t0_ : w12.cell? ⟨w3.heap.size, 0, none⟩ = some (.int .i64 t1) := Bt12.out.cell 0
      have t1_ : w12.cell? ⟨w3.heap.size, 1, none⟩ = some (.int .i64 t2) := Bt12.out.cell 1
      have t2_ : w12.cell? ⟨w3.heap.size, 2, none⟩ = some (.int .i64 t3) := Bt12.out.cell 2
      have tl_ := Bt12.out.lt
      have k0_ : w12.cell? ⟨w6.heap.size, 0, none⟩ = some (.int .i64 0) := Bk12.out.cell 0
      have k1_ : w12.cell? ⟨w6.heap.size, 1, none⟩ = some (.int .i64 k2) := Bk12.out.cell 1
      have k2_ : w12.cell? ⟨w6.heap.size, 2, none⟩ = some (.int .i64 k3) := Bk12.out.cell 2
      have kl_ := Bk12.out.lt
      go_wp2_with fail
      clear e0_ e1_ e2_ e3_ e4_ e5_ e6_ e7_ el_ t0_ t1_ t2_ tl_ k0_ k1_ k2_ kl_
      refine (settle_st (id := 1099511627776) (t := (t1, t2, t3)) (E' := (setE E 1099511627776 (t1, t2, t3))) (J' := (setJ J 1099511627776)) (L := []) (n := 0) (hI _ (by decide) (by decide)) (by decide) rfl rfl (setL_none HI.out) rfl _ P12.out).mono ?_
      rintro e_ w13 ⟨Ax, cx, rfl, ⟨F13, hp, hf, hk⟩, hu⟩
      have U13 := Lib.hid (upd_step U12.out P12.out HB.out hu)
      have P13 := Lib.hid hp
      have Be13 := Lib.hid (Be12.out.upd hu Ne12.out)
      have Ne13 := Lib.hid (nb_step hf Be12.out Ne12.out)
      have Bt13 := Lib.hid (Bt12.out.upd hu Nt12.out)
      have Nt13 := Lib.hid (nb_step hf Bt12.out Nt12.out)
      have Bk13 := Lib.hid (Bk12.out.upd hu Nk12.out)
      have Nk13 := Lib.hid (nb_step hf Bk12.out Nk12.out)
      have Kx13 := Lib.hid hk
      clear hu hp hf hk U12 P12 Be12 Bt12 Bk12 Ne12 Nt12 Nk12
      have e0_ : w13.cell? ⟨w.heap.size, 0, none⟩ = some (.int .i64 k1) := Be13.out.cell 0
      have e1_ : w13.cell? ⟨w.heap.size, 1, none⟩ = some (.int .i64 k2) := Be13.out.cell 1
      have e2_ : w13.cell? ⟨w.heap.size, 2, none⟩ = some (.int .i64 k3) := Be13.out.cell 2
      have e3_ : w13.cell? ⟨w.heap.size, 3, none⟩ = some (.int .i64 id) := Be13.out.cell 3
      have e4_ : w13.cell? ⟨w.heap.size, 4, none⟩ = some (.bool dn) := Be13.out.cell 4
      have e5_ : w13.cell? ⟨w.heap.size, 5, none⟩ = some (.int .i64 t1) := Be13.out.cell 5
      have e6_ : w13.cell? ⟨w.heap.size, 6, none⟩ = some (.int .i64 t2) := Be13.out.cell 6
      have e7_ : w13.cell? ⟨w.heap.size, 7, none⟩ = some (.int .i64 t3) := Be13.out.cell 7
      have el_ := Be13.out.lt
      have t0_ : w13.cell? ⟨w3.heap.size, 0, none⟩ = some (.int .i64 t1) := Bt13.out.cell 0
      have t1_ : w13.cell? ⟨w3.heap.size, 1, none⟩ = some (.int .i64 t2) := Bt13.out.cell 1
      have t2_ : w13.cell? ⟨w3.heap.size, 2, none⟩ = some (.int .i64 t3) := Bt13.out.cell 2
      have tl_ := Bt13.out.lt
      have k0_ : w13.cell? ⟨w6.heap.size, 0, none⟩ = some (.int .i64 0) := Bk13.out.cell 0
      have k1_ : w13.cell? ⟨w6.heap.size, 1, none⟩ = some (.int .i64 k2) := Bk13.out.cell 1
      have k2_ : w13.cell? ⟨w6.heap.size, 2, none⟩ = some (.int .i64 k3) := Bk13.out.cell 2
      have kl_ := Bk13.out.lt
      go_wp2_with fail
      clear e0_ e1_ e2_ e3_ e4_ e5_ e6_ e7_ el_ t0_ t1_ t2_ tl_ k0_ k1_ k2_ kl_
      refine (ask_e (k := (0, k2, k3)) (id := 1099511627778) (E' := (setE E 1099511627776 (t1, t2, t3))) (J' := (setJ J 1099511627776)) (a := 1) (t := (0, 0, 0)) HK.out (hI _ (by decide) (by decide)) (by decide) rfl rfl rfl rfl _ P13.out).mono ?_
      rintro e_ w14 ⟨rfl, ⟨F14, hp, hf⟩, hu⟩
      have U14 := Lib.hid (upd_step U13.out P13.out HB.out hu)
      have P14 := Lib.hid hp
      have Be14 := Lib.hid (Be13.out.upd hu Ne13.out)
      have Ne14 := Lib.hid (nb_step hf Be13.out Ne13.out)
      have Bt14 := Lib.hid (Bt13.out.upd hu Nt13.out)
      have Nt14 := Lib.hid (nb_step hf Bt13.out Nt13.out)
      have Bk14 := Lib.hid (Bk13.out.upd hu Nk13.out)
      have Nk14 := Lib.hid (nb_step hf Bk13.out Nk13.out)
      have Kx14 := Lib.hid (Kx13.out.step hu (fun _ h => .inl h) hf)
      clear hu hp hf  U13 P13 Be13 Bt13 Bk13 Ne13 Nt13 Nk13 Kx13
      have e0_ : w14.cell? ⟨w.heap.size, 0, none⟩ = some (.int .i64 k1) := Be14.out.cell 0
      have e1_ : w14.cell? ⟨w.heap.size, 1, none⟩ = some (.int .i64 k2) := Be14.out.cell 1
      have e2_ : w14.cell? ⟨w.heap.size, 2, none⟩ = some (.int .i64 k3) := Be14.out.cell 2
      have e3_ : w14.cell? ⟨w.heap.size, 3, none⟩ = some (.int .i64 id) := Be14.out.cell 3
      have e4_ : w14.cell? ⟨w.heap.size, 4, none⟩ = some (.bool dn) := Be14.out.cell 4
      have e5_ : w14.cell? ⟨w.heap.size, 5, none⟩ = some (.int .i64 t1) := Be14.out.cell 5
      have e6_ : w14.cell? ⟨w.heap.size, 6, none⟩ = some (.int .i64 t2) := Be14.out.cell 6
      have e7_ : w14.cell? ⟨w.heap.size, 7, none⟩ = some (.int .i64 t3) := Be14.out.cell 7
      have el_ := Be14.out.lt
      have t0_ : w14.cell? ⟨w3.heap.size, 0, none⟩ = some (.int .i64 t1) := Bt14.out.cell 0
      have t1_ : w14.cell? ⟨w3.heap.size, 1, none⟩ = some (.int .i64 t2) := Bt14.out.cell 1
      have t2_ : w14.cell? ⟨w3.heap.size, 2, none⟩ = some (.int .i64 t3) := Bt14.out.cell 2
      have tl_ := Bt14.out.lt
      have k0_ : w14.cell? ⟨w6.heap.size, 0, none⟩ = some (.int .i64 0) := Bk14.out.cell 0
      have k1_ : w14.cell? ⟨w6.heap.size, 1, none⟩ = some (.int .i64 k2) := Bk14.out.cell 1
      have k2_ : w14.cell? ⟨w6.heap.size, 2, none⟩ = some (.int .i64 k3) := Bk14.out.cell 2
      have kl_ := Bk14.out.lt
      go_wp2_with fail
      clear e0_ e1_ e2_ e3_ e4_ e5_ e6_ e7_ el_ t0_ t1_ t2_ tl_ k0_ k1_ k2_ kl_
      have heq : ∀ w, (Op.equalIn 10000 44 (.agg #[.int .i64 0, .int .i64 0, .int .i64 0]) (.agg #[.int .i64 0, .int .i64 0, .int .i64 0])).run Try.prog w = .ok true w := fun w => eqT (0, 0, 0) (0, 0, 0) w
      have hgd : ∀ (op : BinOp) (a b : Operand) (w : World), (eqGuard op 44 a b (.agg #[.int .i64 0, .int .i64 0, .int .i64 0]) (.agg #[.int .i64 0, .int .i64 0, .int .i64 0])).run Try.prog w = .ok () w := fun op a b w => gdT op a b (0, 0, 0) (0, 0, 0) w
      refine Calls.gen (fun W => Upd (fun _ => False) w14 W ∧ Blk W (w14.heap.size) 44 #[.int .i64 0, .int .i64 0, .int .i64 0]) ⟨(by repeat (first | exact Upd.refl _ _ | refine Upd.alloc ?_ _ | refine Upd.drew ?_ | refine Upd.drewN ?_ _ | refine Upd.put ?_ _ _)), by repeat (first | exact Blk.new _ _ _ | exact Blk.new1 _ _ _ _ | exact Blk.new2 _ _ _ _ _ | exact Blk.new3 _ _ _ _ _ _ | refine Blk.alloc ?_ _ | refine Blk.drew ?_)⟩ (fun w15 hW => ?_)
      obtain ⟨hu, hb0⟩ := hW
      have U15 := Lib.hid (U14.out.trans hu (fun _ h => h.elim))
      have P15 := Lib.hid (P14.out.upd0 hu)
      have Be15 := Lib.hid (Be14.out.upd hu (fun h => h))
      have Ne15 := Ne14
      have Bt15 := Lib.hid (Bt14.out.upd hu (fun h => h))
      have Nt15 := Nt14
      have Bk15 := Lib.hid (Bk14.out.upd hu (fun h => h))
      have Nk15 := Nk14
      have Kx15 := Lib.hid (Kx14.out.keep0 hu)
      have Bs15 := Lib.hid hb0
      have Ns15 := Lib.hid (P14.out.nb (b := w14.heap.size) (by omega))
      clear hu hb0 U14 P14 Be14 Bt14 Bk14 Ne14 Nt14 Nk14 Kx14
      refine (len_st (n := E.length) (setE_len E _ _) _ P15.out).mono ?_
      rintro e_ w16 ⟨rfl, hu⟩
      have U16 := Lib.hid (U15.out.trans hu (fun _ h => h.elim))
      have P16 := Lib.hid (P15.out.upd0 hu)
      have Be16 := Lib.hid (Be15.out.upd hu (fun h => h))
      have Ne16 := Ne15
      have Bt16 := Lib.hid (Bt15.out.upd hu (fun h => h))
      have Nt16 := Nt15
      have Bk16 := Lib.hid (Bk15.out.upd hu (fun h => h))
      have Nk16 := Nk15
      have Bs16 := Lib.hid (Bs15.out.upd hu (fun h => h))
      have Ns16 := Ns15
      have Kx16 := Lib.hid (Kx15.out.keep0 hu)
      clear hu U15 P15 Be15 Bt15 Bk15 Bs15 Ne15 Nt15 Nk15 Ns15 Kx15
      have e0_ : w16.cell? ⟨w.heap.size, 0, none⟩ = some (.int .i64 k1) := Be16.out.cell 0
      have e1_ : w16.cell? ⟨w.heap.size, 1, none⟩ = some (.int .i64 k2) := Be16.out.cell 1
      have e2_ : w16.cell? ⟨w.heap.size, 2, none⟩ = some (.int .i64 k3) := Be16.out.cell 2
      have e3_ : w16.cell? ⟨w.heap.size, 3, none⟩ = some (.int .i64 id) := Be16.out.cell 3
      have e4_ : w16.cell? ⟨w.heap.size, 4, none⟩ = some (.bool dn) := Be16.out.cell 4
      have e5_ : w16.cell? ⟨w.heap.size, 5, none⟩ = some (.int .i64 t1) := Be16.out.cell 5
      have e6_ : w16.cell? ⟨w.heap.size, 6, none⟩ = some (.int .i64 t2) := Be16.out.cell 6
      have e7_ : w16.cell? ⟨w.heap.size, 7, none⟩ = some (.int .i64 t3) := Be16.out.cell 7
      have el_ := Be16.out.lt
      have t0_ : w16.cell? ⟨w3.heap.size, 0, none⟩ = some (.int .i64 t1) := Bt16.out.cell 0
      have t1_ : w16.cell? ⟨w3.heap.size, 1, none⟩ = some (.int .i64 t2) := Bt16.out.cell 1
      have t2_ : w16.cell? ⟨w3.heap.size, 2, none⟩ = some (.int .i64 t3) := Bt16.out.cell 2
      have tl_ := Bt16.out.lt
      have k0_ : w16.cell? ⟨w6.heap.size, 0, none⟩ = some (.int .i64 0) := Bk16.out.cell 0
      have k1_ : w16.cell? ⟨w6.heap.size, 1, none⟩ = some (.int .i64 k2) := Bk16.out.cell 1
      have k2_ : w16.cell? ⟨w6.heap.size, 2, none⟩ = some (.int .i64 k3) := Bk16.out.cell 2
      have kl_ := Bk16.out.lt
      have s0_ : w16.cell? ⟨w14.heap.size, 0, none⟩ = some (.int .i64 0) := Bs16.out.cell 0
      have s1_ : w16.cell? ⟨w14.heap.size, 1, none⟩ = some (.int .i64 0) := Bs16.out.cell 1
      have s2_ : w16.cell? ⟨w14.heap.size, 2, none⟩ = some (.int .i64 0) := Bs16.out.cell 2
      have sl_ := Bs16.out.lt
      go_wp2_with fail
      clear e0_ e1_ e2_ e3_ e4_ e5_ e6_ e7_ el_ t0_ t1_ t2_ tl_ k0_ k1_ k2_ kl_ s0_ s1_ s2_ sl_
      refine (close_st (s := 0) (E' := (cloE (setE E 1099511627776 (t1, t2, t3)) 0)) (n := 0) (by decide) rfl (by rw [setE_len, clo_zero HI.out]; exact Nat.sub_self _) _ P16.out).mono ?_
      rintro e_ w17 ⟨rfl, hp, hu⟩
      have U17 := Lib.hid (upd_step U16.out P16.out HB.out hu)
      have P17 := Lib.hid hp
      have Be17 := Lib.hid (Be16.out.upd hu Ne16.out)
      have Ne17 := Ne16
      have Bt17 := Lib.hid (Bt16.out.upd hu Nt16.out)
      have Nt17 := Nt16
      have Bk17 := Lib.hid (Bk16.out.upd hu Nk16.out)
      have Nk17 := Nk16
      have Bs17 := Lib.hid (Bs16.out.upd hu Ns16.out)
      have Ns17 := Ns16
      have Kx17 := Lib.hid (Kx16.out.keep hu (fun _ h => h))
      clear hu hp U16 P16 Be16 Bt16 Bk16 Bs16 Ne16 Nt16 Nk16 Ns16 Kx16
      have e0_ : w17.cell? ⟨w.heap.size, 0, none⟩ = some (.int .i64 k1) := Be17.out.cell 0
      have e1_ : w17.cell? ⟨w.heap.size, 1, none⟩ = some (.int .i64 k2) := Be17.out.cell 1
      have e2_ : w17.cell? ⟨w.heap.size, 2, none⟩ = some (.int .i64 k3) := Be17.out.cell 2
      have e3_ : w17.cell? ⟨w.heap.size, 3, none⟩ = some (.int .i64 id) := Be17.out.cell 3
      have e4_ : w17.cell? ⟨w.heap.size, 4, none⟩ = some (.bool dn) := Be17.out.cell 4
      have e5_ : w17.cell? ⟨w.heap.size, 5, none⟩ = some (.int .i64 t1) := Be17.out.cell 5
      have e6_ : w17.cell? ⟨w.heap.size, 6, none⟩ = some (.int .i64 t2) := Be17.out.cell 6
      have e7_ : w17.cell? ⟨w.heap.size, 7, none⟩ = some (.int .i64 t3) := Be17.out.cell 7
      have el_ := Be17.out.lt
      have t0_ : w17.cell? ⟨w3.heap.size, 0, none⟩ = some (.int .i64 t1) := Bt17.out.cell 0
      have t1_ : w17.cell? ⟨w3.heap.size, 1, none⟩ = some (.int .i64 t2) := Bt17.out.cell 1
      have t2_ : w17.cell? ⟨w3.heap.size, 2, none⟩ = some (.int .i64 t3) := Bt17.out.cell 2
      have tl_ := Bt17.out.lt
      have k0_ : w17.cell? ⟨w6.heap.size, 0, none⟩ = some (.int .i64 0) := Bk17.out.cell 0
      have k1_ : w17.cell? ⟨w6.heap.size, 1, none⟩ = some (.int .i64 k2) := Bk17.out.cell 1
      have k2_ : w17.cell? ⟨w6.heap.size, 2, none⟩ = some (.int .i64 k3) := Bk17.out.cell 2
      have kl_ := Bk17.out.lt
      have s0_ : w17.cell? ⟨w14.heap.size, 0, none⟩ = some (.int .i64 0) := Bs17.out.cell 0
      have s1_ : w17.cell? ⟨w14.heap.size, 1, none⟩ = some (.int .i64 0) := Bs17.out.cell 1
      have s2_ : w17.cell? ⟨w14.heap.size, 2, none⟩ = some (.int .i64 0) := Bs17.out.cell 2
      have sl_ := Bs17.out.lt
      go_wp2
      clear e0_ e1_ e2_ e3_ e4_ e5_ e6_ e7_ el_ t0_ t1_ t2_ tl_ k0_ k1_ k2_ kl_ s0_ s1_ s2_ sl_
      go_ret
      exact ⟨rfl, U17.out.below0⟩
theorem cnone_walk {w : World} (A9 : Option Addr) (len9 cap9 : Nat) (L9 : List (List Value)) (hL9 : L9.length = len9) (hlc9 : len9 ≤ cap9) (hm9 : cap9 ≤ maxLen) (hn9 : A9 = none → len9 = 0 ∧ cap9 = 0) (hok9 : ∀ row ∈ L9, Oks d8s row) (hr9 : Rows w A9 8 L9)
    (c1 : Array Value) (w1 : Oks [.int .i64, .int .i64, .int .i64, .int .i64, .bool, .int .i64, .int .i64, .int .i64] c1.toList) :
    Calls Try.prog 6 #[.slice A9 len9 cap9, .agg c1] w fun e w' => e = .returned (.bool true) ∧ Below w.heap.size w w' := by
  obtain ⟨l, hl, hwf, hs⟩ := sl_rows (enc := d8) d8_len (by decide) d8_dec hL9 hlc9 hm9 hn9 hok9 hr9
  unfold maxLen at hm9
  obtain ⟨k1, k2, k3, id, t1, t2, t3, dn, e, hk⟩ := e8_dec _ w1
  obtain rfl : c1 = #[.int .i64 k1, .int .i64 k2, .int .i64 k3, .int .i64 id, .bool dn, .int .i64 t1, .int .i64 t2, .int .i64 t3] := by obtain ⟨c1⟩ := c1; simp only at e; rw [e]
  exact cnone_any A9 len9 cap9 l hl (by omega) hwf k1 k2 k3 id t1 t2 t3 dn hk w hs
end Go.Proofs.Ytninaaolbgchpaa
