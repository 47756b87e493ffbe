/- CacheOne. -/
import Derived.Test.YtninaaolbgchpaaWz
namespace Go.Proofs.Ytninaaolbgchpaa
open Go.RowKit
set_option linter.unusedVariables false
set_option linter.unusedSimpArgs false

/-- Who asked, from M2 on. -/
def wants (i : Nat) : List Int := (List.range i).map fun (j : Nat) => 2199023255552 + (j : Int)
theorem wants_succ (i : Nat) : wants (i + 1) = wants i ++ [2199023255552 + (i : Int)] := by
  unfold wants
  rw [List.range_succ, List.map_append]
  rfl
theorem wants_len (i : Nat) : (wants i).length = i := by simp [wants]
def jw (J : List J2) (i : Nat) : List J2 := J ++ (wants i).map fun x => (1099511627776, x)
section
variable {E : List En} {J : List J2} {k t : K3}
theorem clo_no (E : List En) (k : K3) : entK (cloE E k.1) k = none := by
  unfold entK cloE
  rw [List.find?_eq_none]
  intro e he
  have := (List.mem_filter.1 he).2
  simp at this ⊢
  intro h
  exact this (by rw [h])
def e1 (E : List En) (k : K3) : List En := cloE E k.1 ++ [⟨k, 1099511627776, none⟩]
theorem ent1 (E : List En) (k : K3) : entK (e1 E k) k = some ⟨k, 1099511627776, none⟩ := by
  have h := clo_no E k
  unfold entK e1 at *
  rw [List.find?_append, h]
  simp
theorem ent_set {E : List En} {k t : K3} {M : Int} {u : Option K3} (h : entK E k = some ⟨k, M, u⟩) : entK (setE E M t) k = some ⟨k, M, some t⟩ := by
  unfold entK setE at *
  rw [List.find?_map]
  have hf : ((fun e : En => decide (e.k = k)) ∘ fun e : En => if e.id = M then { e with t := some t } else e) = fun e => decide (e.k = k) := by
    funext e
    simp only [Function.comp]
    split <;> rfl
  rw [hf, h]
  simp
theorem kp_of_own {w : World} {base : Nat} {e : TypeId} {size n : Nat} {v : Value} {xs : List Value} {F : Nat → Prop} (h : w.ownsRow base e size v n xs) (hn : ∀ b, v.ownBlock = some b → ¬ F b) : ∃ A cap, v = .slice A n cap ∧ Kp w F A n cap xs := by
  obtain ⟨A, cap, hv, hs, _⟩ := Sl.of_own h
  refine ⟨A, cap, hv, Kp.of_new hs (fun b o hA hf => ?_)⟩
  rcases h.2 with ⟨e, _⟩ | ⟨g', cap', cur, e, _⟩
  · rw [hv, hA] at e; cases e
  · rw [hv, hA] at e
    injection e with e1 e2 e3
    injection e1 with e1
    injection e1 with e1 e4
    refine hn b ?_ hf
    rw [hv, hA, e1]
    simp [Value.ownBlock, e4]
theorem Blk.upd0_ {w w' : World} {g : Nat} {t : TypeId} {cs : Array Value} (h : Blk w g t cs) (hu : Upd (fun _ => False) w w') : Blk w' g t cs := h.upd hu (fun h => h)
theorem own_is {w : World} {base : Nat} {e : TypeId} {size n : Nat} {v : Value} {xs : List Value} (h : w.ownsRow base e size v n xs) {b : Nat} (hb : v.ownBlock = some b) : ∃ cs, Blk w b e cs := by
  rcases h.2 with ⟨rfl, _⟩ | ⟨g, cap, cur, rfl, hg, hh, _⟩
  · simp [Value.ownBlock] at hb
  · have : g = b := by simpa [Value.ownBlock] using hb
    subst this
    exact ⟨_, hh⟩
/-- Blocks apart of the cache are written. -/
theorem CS.away {w W : World} {base g bk bj N : Nat} {F S : Nat → Prop} {E : List En} {J : List J2} (h : CS w base g bk bj F E J N) (hS : ∀ k, S k → ¬ F k) (hT : ∀ k, S k → ∃ cs, Blk w k 3 cs) (hu : Upd S w W) : CS W base g bk bj F E J N := by
  obtain ⟨n, D, EP, hn, hm, he, hl, ht⟩ := h.keys
  refine ⟨h.blk.upd hu (fun hs => by obtain ⟨cs, hc⟩ := hT _ hs; exact Blk.ne h.blk hc (by decide) rfl), h.gb, h.fk, h.fj, fun k hk => ⟨(h.fr k hk).1, Nat.lt_of_lt_of_le (h.fr k hk).2 hu.size⟩, h.kj, h.gF, h.ids, h.jn, ⟨n, D, EP, hn, hm.upd hu (fun hs => hS _ hs h.fk), he, hl, fun p hp => ?_⟩, h.joins.apart hu hS h.fj⟩
  have := ht p hp
  unfold Tells at this ⊢
  split
  · rename_i he_
    rw [he_] at this
    exact this
  · rename_i t he_
    rw [he_] at this
    obtain ⟨b, e, hbb, hge, hnf⟩ := this
    exact ⟨b, e, hbb.upd hu (fun hs => by obtain ⟨cs, hc⟩ := hT _ hs; exact Blk.ne hbb hc (by decide) rfl), hge, hnf⟩
theorem jw_zero (J : List J2) : jw J 0 = J := by simp [jw, wants]
theorem jw_succ (J : List J2) (i : Nat) : jw J (i + 1) = jw J i ++ [(1099511627776, 2199023255552 + (i : Int))] := by
  unfold jw
  rw [wants_succ, List.map_append, List.append_assoc]
  rfl
theorem jw_L {s : List En × List J2} (h : SI 1099511627776 s) (i : Nat) : setL (jw s.2 i) 1099511627776 = wants i := by
  unfold setL jw
  rw [List.filter_append, List.map_append]
  have h1 : (s.2.filter fun p => decide (p.1 = 1099511627776)) = [] := List.filter_eq_nil_iff.2 (fun p hp => by have := h.2 p hp; simp; omega)
  have h2 : (((wants i).map fun x => ((1099511627776, x) : J2)).filter fun p => decide (p.1 = 1099511627776)) = (wants i).map fun x => ((1099511627776, x) : J2) := List.filter_eq_self.2 (fun p hp => by obtain ⟨x, _, rfl⟩ := List.mem_map.1 hp; simp)
  rw [h1, h2, List.map_map]
  show [] ++ _ = _
  rw [List.nil_append]
  exact List.map_id (wants i)
end
set_option maxHeartbeats 8000000 in
set_option maxRecDepth 100000 in
theorem cone_any (L : Option Addr) (len cap : Nat) (l : List D8) (hl : l.length = len) (hm : len ≤ 9223372036854775807) (hwf : ∀ x ∈ l, dok x) (k1 k2 k3 id t1 t2 t3 : Int) (dn : Bool) (many : Int) (hm0 : 0 ≤ many) (hm1 : many ≤ 255) (hk : kok (k1, k2, k3)) (w : World) (hs : Sl w L len cap (fl d8 l)) :
    Calls Try.prog 4 #[.slice L len cap, .agg #[.int .i64 k1, .int .i64 k2, .int .i64 k3, .int .i64 id, .bool dn, .int .i64 t1, .int .i64 t2, .int .i64 t3], .int .u8 many] w fun e w' => e = .returned (.bool true) ∧ Below w.heap.size w w' := by
  have HL := Lib.hid hl
  have HWF := Lib.hid hwf
  have HS := Lib.hid hs
  have HK := Lib.hid hk
  clear hl hwf hs hk
  obtain ⟨ct, hct, hct9⟩ : ∃ ct : Nat, many.tmod 9 = (ct : Int) ∧ ct < 9 := ⟨(many.tmod 9).toNat, by rw [Int.tmod_eq_emod_of_nonneg hm0]; omega, by rw [Int.tmod_eq_emod_of_nonneg hm0]; omega⟩
  have hI : ∀ x : Int, -4611686018427387904 ≤ x → x ≤ 4611686018427387904 → iok x := fun x h1 h2 => iok_of h1 h2
  go_enter Try.func4, Try.ntmps4
  have U0 : Hid (Upd (fun _ => False) w w) := Lib.hid (Upd.refl _ w)
  go_wp2_with fail
  refine Calls.gen (fun W => Upd (fun _ => False) w W ∧ Blk W (w.heap.size) 41 #[.int .i64 k1, .int .i64 k2, .int .i64 k3, .int .i64 id, .bool dn, .int .i64 t1, .int .i64 t2, .int .i64 t3]) ⟨(by repeat (first | exact Upd.refl _ _ | refine Upd.alloc ?_ _ | refine Upd.drew ?_ | refine Upd.drewN ?_ _ | refine Upd.put ?_ _ _)), by repeat (first | exact Blk.new _ _ _ | exact Blk.new1 _ _ _ _ | exact Blk.new2 _ _ _ _ _ | exact Blk.new3 _ _ _ _ _ _ | refine Blk.alloc ?_ _ | refine Blk.drew ?_)⟩ (fun w1 hW => ?_)
  obtain ⟨hu, hb0⟩ := hW
  have U1 := Lib.hid (U0.out.trans hu (fun _ h => h.elim))
  have Be1 := Lib.hid hb0
  clear hu hb0 U0
  refine (awake_to _).mono ?_
  rintro e_ w2 ⟨rfl, hu⟩
  have U2 := Lib.hid (U1.out.trans hu (fun _ h => h.elim))
  have Be2 := Lib.hid (Be1.out.upd hu (fun h => h))
  clear hu U1 Be1
  have e0_ : w2.cell? ⟨w.heap.size, 0, none⟩ = some (.int .i64 k1) := Be2.out.cell 0
  have e1_ : w2.cell? ⟨w.heap.size, 1, none⟩ = some (.int .i64 k2) := Be2.out.cell 1
  have e2_ : w2.cell? ⟨w.heap.size, 2, none⟩ = some (.int .i64 k3) := Be2.out.cell 2
  have e3_ : w2.cell? ⟨w.heap.size, 3, none⟩ = some (.int .i64 id) := Be2.out.cell 3
  have e4_ : w2.cell? ⟨w.heap.size, 4, none⟩ = some (.bool dn) := Be2.out.cell 4
  have e5_ : w2.cell? ⟨w.heap.size, 5, none⟩ = some (.int .i64 t1) := Be2.out.cell 5
  have e6_ : w2.cell? ⟨w.heap.size, 6, none⟩ = some (.int .i64 t2) := Be2.out.cell 6
  have e7_ : w2.cell? ⟨w.heap.size, 7, none⟩ = some (.int .i64 t3) := Be2.out.cell 7
  have el_ := Be2.out.lt
  go_wp2_with fail
  clear e0_ e1_ e2_ e3_ e4_ e5_ e6_ e7_ el_
  refine Calls.gen (fun W => Upd (fun _ => False) w2 W ∧ Blk W (w2.heap.size) 33 #[.int .i64 k1, .int .i64 k2, .int .i64 k3] ∧ Blk W (w2.heap.size + 1) 35 #[.int .i64 t1, .int .i64 t2, .int .i64 t3]) ⟨(by repeat (first | exact Upd.refl _ _ | refine Upd.alloc ?_ _ | refine Upd.drew ?_ | refine Upd.drewN ?_ _ | refine Upd.put ?_ _ _)), by repeat (first | exact Blk.new _ _ _ | exact Blk.new1 _ _ _ _ | exact Blk.new2 _ _ _ _ _ | exact Blk.new3 _ _ _ _ _ _ | refine Blk.alloc ?_ _ | refine Blk.drew ?_), by repeat (first | exact Blk.new _ _ _ | exact Blk.new1 _ _ _ _ | exact Blk.new2 _ _ _ _ _ | exact Blk.new3 _ _ _ _ _ _ | refine Blk.alloc ?_ _ | refine Blk.drew ?_)⟩ (fun w3 hW => ?_)
  obtain ⟨hu, hb0, hb1⟩ := hW
  have U3 := Lib.hid (U2.out.trans hu (fun _ h => h.elim))
  have Be3 := Lib.hid (Be2.out.upd hu (fun h => h))
  have Bk3 := Lib.hid hb0
  have Bt3 := Lib.hid hb1
  clear hu hb0 hb1 U2 Be2
  refine (ran_to L len cap l HL.out hm HWF.out _ (HS.out.upd0 U3.out)).mono ?_
  rintro e_ w4 ⟨gg, bk, bj, F4, rfl, hp, hu⟩
  have HB : Hid (w.heap.size ≤ w3.heap.size) := Lib.hid U3.out.size
  have U4 := Lib.hid (U3.out.trans hu (fun _ h => h.elim))
  have P4 := Lib.hid hp
  have Be4 := Lib.hid (Be3.out.upd hu (fun h => h))
  have Ne4 := Lib.hid (hp.nlow Be3.out.lt)
  have Bk4 := Lib.hid (Bk3.out.upd hu (fun h => h))
  have Nk4 := Lib.hid (hp.nlow Bk3.out.lt)
  have Bt4 := Lib.hid (Bt3.out.upd hu (fun h => h))
  have Nt4 := Lib.hid (hp.nlow Bt3.out.lt)
  clear hu hp U3 Be3 Bk3 Bt3
  have HSI : Hid ((∀ x ∈ l, x.2.1 < 1099511627776) → SI 1099511627776 (st (l.take 100))) := Lib.hid (fun h => SI.st l h)
  rcases hst : st (l.take 100) with ⟨E, J⟩
  rw [hst] at P4 HSI
  simp only at P4 HSI
  clear hst
  have e0_ : w4.cell? ⟨w.heap.size, 0, none⟩ = some (.int .i64 k1) := Be4.out.cell 0
  have e1_ : w4.cell? ⟨w.heap.size, 1, none⟩ = some (.int .i64 k2) := Be4.out.cell 1
  have e2_ : w4.cell? ⟨w.heap.size, 2, none⟩ = some (.int .i64 k3) := Be4.out.cell 2
  have e3_ : w4.cell? ⟨w.heap.size, 3, none⟩ = some (.int .i64 id) := Be4.out.cell 3
  have e4_ : w4.cell? ⟨w.heap.size, 4, none⟩ = some (.bool dn) := Be4.out.cell 4
  have e5_ : w4.cell? ⟨w.heap.size, 5, none⟩ = some (.int .i64 t1) := Be4.out.cell 5
  have e6_ : w4.cell? ⟨w.heap.size, 6, none⟩ = some (.int .i64 t2) := Be4.out.cell 6
  have e7_ : w4.cell? ⟨w.heap.size, 7, none⟩ = some (.int .i64 t3) := Be4.out.cell 7
  have el_ := Be4.out.lt
  have k0_ : w4.cell? ⟨w2.heap.size, 0, none⟩ = some (.int .i64 k1) := Bk4.out.cell 0
  have k1_ : w4.cell? ⟨w2.heap.size, 1, none⟩ = some (.int .i64 k2) := Bk4.out.cell 1
  have k2_ : w4.cell? ⟨w2.heap.size, 2, none⟩ = some (.int .i64 k3) := Bk4.out.cell 2
  have kl_ := Bk4.out.lt
  have t0_ : w4.cell? ⟨w2.heap.size + 1, 0, none⟩ = some (.int .i64 t1) := Bt4.out.cell 0
  have t1_ : w4.cell? ⟨w2.heap.size + 1, 1, none⟩ = some (.int .i64 t2) := Bt4.out.cell 1
  have t2_ : w4.cell? ⟨w2.heap.size + 1, 2, none⟩ = some (.int .i64 t3) := Bt4.out.cell 2
  have tl_ := Bt4.out.lt
  go_wp2_with fail
  clear e0_ e1_ e2_ e3_ e4_ e5_ e6_ e7_ el_ k0_ k1_ k2_ kl_ t0_ t1_ t2_ tl_
  go_loopw [11] (fun iv wr => ∃ (k : Nat), k ≤ len ∧ iv = .int .i64 k ∧ Hid (∀ x ∈ l.take k, x.2.1 < 1099511627776) ∧ Hid (Upd (fun _ => False) w4 wr)) (fun iv _ => len - (intOf iv).toNat)
  case atStart => exact ⟨0, Nat.zero_le _, rfl, Lib.hid (fun x hx => by simp at hx), Lib.hid (Upd.refl _ _)⟩
  case round =>
    obtain ⟨k, hk, rfl, HALL, HV⟩ := hrel
    have i0 : (0 : Int) ≤ (k : Int) := Int.natCast_nonneg _
    by_cases hkn : k < len
    · obtain ⟨x, hx⟩ : ∃ x, l[k]? = some x := ⟨l[k]'(by rw [HL.out]; exact hkn), List.getElem?_eq_getElem _⟩
      have i1 : (k : Int) < (len : Int) := by omega
      obtain ⟨b, o, hA', hb, hc⟩ := (HS.out.upd0 (U4.out.trans HV.out (fun _ h => h.elim))).row d8_len (by decide) hx
      have c1 : wr.cell? ⟨b, o + k * 8 + 1, none⟩ = some (.int .i64 x.2.1) := hc 1 _ rfl
      have HT := Lib.hid (take_snoc hx)
      subst hA'
      clear hc hx
      by_cases hq : x.2.1 < 1099511627776
      · have hq1 : ¬ x.2.1 ≥ 1099511627776 := by omega
        have HQ := Lib.hid hq
        clear hq
        go_wp2
        go_roundw
        case rel => exact ⟨k + 1, by omega, by go_num, Lib.hid (ids_more HT.out HALL.out HQ.out), HV⟩
        case measure => simp [intOf]; omega
      · have hq1 : x.2.1 ≥ 1099511627776 := by omega
        clear hq
        go_wp2
        go_ret
        exact ⟨rfl, (U4.out.trans HV.out (fun _ h => h.elim)).below0⟩
    · obtain rfl : k = len := by omega
      have HAL : Hid (∀ x ∈ l, x.2.1 < 1099511627776) := Lib.hid (fun x hx => HALL.out x (by rw [List.take_of_length_le (by rw [HL.out]; exact Nat.le_refl _)]; exact hx))
      clear HALL
      obtain ⟨w5, hww⟩ : ∃ z, z = wr := ⟨_, rfl⟩
      subst hww
      have hv := HV.out
      have U5 := Lib.hid (U4.out.trans hv (fun _ h => h.elim))
      have Be5 := Lib.hid (Be4.out.upd hv (fun h => h))
      have Bk5 := Lib.hid (Bk4.out.upd hv (fun h => h))
      have Bt5 := Lib.hid (Bt4.out.upd hv (fun h => h))
      have P5 := Lib.hid (P4.out.upd0 hv)
      have Ne5 := Ne4
      have Nk5 := Nk4
      have Nt5 := Nt4
      clear hv HV U4 P4 Be4 Bk4 Bt4 Ne4 Nk4 Nt4
      have HI := Lib.hid (HSI.out HAL.out)
      by_cases h0 : k1 = 0
      · skip
        have hd0 : (k1 == 0) = true := by simp [h0]
        have e0_ : w5.cell? ⟨w.heap.size, 0, none⟩ = some (.int .i64 k1) := Be5.out.cell 0
        have e1_ : w5.cell? ⟨w.heap.size, 1, none⟩ = some (.int .i64 k2) := Be5.out.cell 1
        have e2_ : w5.cell? ⟨w.heap.size, 2, none⟩ = some (.int .i64 k3) := Be5.out.cell 2
        have e3_ : w5.cell? ⟨w.heap.size, 3, none⟩ = some (.int .i64 id) := Be5.out.cell 3
        have e4_ : w5.cell? ⟨w.heap.size, 4, none⟩ = some (.bool dn) := Be5.out.cell 4
        have e5_ : w5.cell? ⟨w.heap.size, 5, none⟩ = some (.int .i64 t1) := Be5.out.cell 5
        have e6_ : w5.cell? ⟨w.heap.size, 6, none⟩ = some (.int .i64 t2) := Be5.out.cell 6
        have e7_ : w5.cell? ⟨w.heap.size, 7, none⟩ = some (.int .i64 t3) := Be5.out.cell 7
        have el_ := Be5.out.lt
        have k0_ : w5.cell? ⟨w2.heap.size, 0, none⟩ = some (.int .i64 k1) := Bk5.out.cell 0
        have k1_ : w5.cell? ⟨w2.heap.size, 1, none⟩ = some (.int .i64 k2) := Bk5.out.cell 1
        have k2_ : w5.cell? ⟨w2.heap.size, 2, none⟩ = some (.int .i64 k3) := Bk5.out.cell 2
        have kl_ := Bk5.out.lt
        have t0_ : w5.cell? ⟨w2.heap.size + 1, 0, none⟩ = some (.int .i64 t1) := Bt5.out.cell 0
        have t1_ : w5.cell? ⟨w2.heap.size + 1, 1, none⟩ = some (.int .i64 t2) := Bt5.out.cell 1
        have t2_ : w5.cell? ⟨w2.heap.size + 1, 2, none⟩ = some (.int .i64 t3) := Bt5.out.cell 2
        have tl_ := Bt5.out.lt
        go_wp2
        clear e0_ e1_ e2_ e3_ e4_ e5_ e6_ e7_ el_ k0_ k1_ k2_ kl_ t0_ t1_ t2_ tl_
        go_ret
        exact ⟨rfl, U5.out.below0⟩
      · skip
        have hd0 : (k1 == 0) = false := by simp [h0]
        have H0 : Hid (((k1, k2, k3) : K3).1 ≠ 0) := Lib.hid h0
        clear h0
        have e0_ : w5.cell? ⟨w.heap.size, 0, none⟩ = some (.int .i64 k1) := Be5.out.cell 0
        have e1_ : w5.cell? ⟨w.heap.size, 1, none⟩ = some (.int .i64 k2) := Be5.out.cell 1
        have e2_ : w5.cell? ⟨w.heap.size, 2, none⟩ = some (.int .i64 k3) := Be5.out.cell 2
        have e3_ : w5.cell? ⟨w.heap.size, 3, none⟩ = some (.int .i64 id) := Be5.out.cell 3
        have e4_ : w5.cell? ⟨w.heap.size, 4, none⟩ = some (.bool dn) := Be5.out.cell 4
        have e5_ : w5.cell? ⟨w.heap.size, 5, none⟩ = some (.int .i64 t1) := Be5.out.cell 5
        have e6_ : w5.cell? ⟨w.heap.size, 6, none⟩ = some (.int .i64 t2) := Be5.out.cell 6
        have e7_ : w5.cell? ⟨w.heap.size, 7, none⟩ = some (.int .i64 t3) := Be5.out.cell 7
        have el_ := Be5.out.lt
        have k0_ : w5.cell? ⟨w2.heap.size, 0, none⟩ = some (.int .i64 k1) := Bk5.out.cell 0
        have k1_ : w5.cell? ⟨w2.heap.size, 1, none⟩ = some (.int .i64 k2) := Bk5.out.cell 1
        have k2_ : w5.cell? ⟨w2.heap.size, 2, none⟩ = some (.int .i64 k3) := Bk5.out.cell 2
        have kl_ := Bk5.out.lt
        have t0_ : w5.cell? ⟨w2.heap.size + 1, 0, none⟩ = some (.int .i64 t1) := Bt5.out.cell 0
        have t1_ : w5.cell? ⟨w2.heap.size + 1, 1, none⟩ = some (.int .i64 t2) := Bt5.out.cell 1
        have t2_ : w5.cell? ⟨w2.heap.size + 1, 2, none⟩ = some (.int .i64 t3) := Bt5.out.cell 2
        have tl_ := Bt5.out.lt
        go_wp2_with fail
        clear e0_ e1_ e2_ e3_ e4_ e5_ e6_ e7_ el_ k0_ k1_ k2_ kl_ t0_ t1_ t2_ tl_
        refine (close_to k1 (by decide) _ P5.out).mono ?_
        rintro e_ w6 ⟨rfl, hp, hu⟩
        have hu : Upd F4 w5 w6 := hu.mono (fun i hi => .inl (by rw [show i = bk from hi]; exact P5.out.fk))
        have U6 := Lib.hid (upd_step U5.out P5.out HB.out hu)
        have P6 := Lib.hid hp
        have Be6 := Lib.hid (Be5.out.upd hu Ne5.out)
        have Ne6 := Ne5
        have Bk6 := Lib.hid (Bk5.out.upd hu Nk5.out)
        have Nk6 := Nk5
        have Bt6 := Lib.hid (Bt5.out.upd hu Nt5.out)
        have Nt6 := Nt5
        clear hu hp U5 P5 Be5 Bk5 Bt5 Ne5 Nk5 Nt5
        have e0_ : w6.cell? ⟨w.heap.size, 0, none⟩ = some (.int .i64 k1) := Be6.out.cell 0
        have e1_ : w6.cell? ⟨w.heap.size, 1, none⟩ = some (.int .i64 k2) := Be6.out.cell 1
        have e2_ : w6.cell? ⟨w.heap.size, 2, none⟩ = some (.int .i64 k3) := Be6.out.cell 2
        have e3_ : w6.cell? ⟨w.heap.size, 3, none⟩ = some (.int .i64 id) := Be6.out.cell 3
        have e4_ : w6.cell? ⟨w.heap.size, 4, none⟩ = some (.bool dn) := Be6.out.cell 4
        have e5_ : w6.cell? ⟨w.heap.size, 5, none⟩ = some (.int .i64 t1) := Be6.out.cell 5
        have e6_ : w6.cell? ⟨w.heap.size, 6, none⟩ = some (.int .i64 t2) := Be6.out.cell 6
        have e7_ : w6.cell? ⟨w.heap.size, 7, none⟩ = some (.int .i64 t3) := Be6.out.cell 7
        have el_ := Be6.out.lt
        have k0_ : w6.cell? ⟨w2.heap.size, 0, none⟩ = some (.int .i64 k1) := Bk6.out.cell 0
        have k1_ : w6.cell? ⟨w2.heap.size, 1, none⟩ = some (.int .i64 k2) := Bk6.out.cell 1
        have k2_ : w6.cell? ⟨w2.heap.size, 2, none⟩ = some (.int .i64 k3) := Bk6.out.cell 2
        have kl_ := Bk6.out.lt
        have t0_ : w6.cell? ⟨w2.heap.size + 1, 0, none⟩ = some (.int .i64 t1) := Bt6.out.cell 0
        have t1_ : w6.cell? ⟨w2.heap.size + 1, 1, none⟩ = some (.int .i64 t2) := Bt6.out.cell 1
        have t2_ : w6.cell? ⟨w2.heap.size + 1, 2, none⟩ = some (.int .i64 t3) := Bt6.out.cell 2
        have tl_ := Bt6.out.lt
        go_wp2_with fail
        clear e0_ e1_ e2_ e3_ e4_ e5_ e6_ e7_ el_ k0_ k1_ k2_ kl_ t0_ t1_ t2_ tl_
        refine (key_to (k1, k2, k3) _).mono ?_
        rintro e_ w7 ⟨rfl, hu⟩
        have U7 := Lib.hid (U6.out.trans hu (fun _ h => h.elim))
        have P7 := Lib.hid (P6.out.upd0 hu)
        have Be7 := Lib.hid (Be6.out.upd hu (fun h => h))
        have Ne7 := Ne6
        have Bk7 := Lib.hid (Bk6.out.upd hu (fun h => h))
        have Nk7 := Nk6
        have Bt7 := Lib.hid (Bt6.out.upd hu (fun h => h))
        have Nt7 := Nt6
        clear hu U6 P6 Be6 Bk6 Bt6 Ne6 Nk6 Nt6
        have e0_ : w7.cell? ⟨w.heap.size, 0, none⟩ = some (.int .i64 k1) := Be7.out.cell 0
        have e1_ : w7.cell? ⟨w.heap.size, 1, none⟩ = some (.int .i64 k2) := Be7.out.cell 1
        have e2_ : w7.cell? ⟨w.heap.size, 2, none⟩ = some (.int .i64 k3) := Be7.out.cell 2
        have e3_ : w7.cell? ⟨w.heap.size, 3, none⟩ = some (.int .i64 id) := Be7.out.cell 3
        have e4_ : w7.cell? ⟨w.heap.size, 4, none⟩ = some (.bool dn) := Be7.out.cell 4
        have e5_ : w7.cell? ⟨w.heap.size, 5, none⟩ = some (.int .i64 t1) := Be7.out.cell 5
        have e6_ : w7.cell? ⟨w.heap.size, 6, none⟩ = some (.int .i64 t2) := Be7.out.cell 6
        have e7_ : w7.cell? ⟨w.heap.size, 7, none⟩ = some (.int .i64 t3) := Be7.out.cell 7
        have el_ := Be7.out.lt
        have k0_ : w7.cell? ⟨w2.heap.size, 0, none⟩ = some (.int .i64 k1) := Bk7.out.cell 0
        have k1_ : w7.cell? ⟨w2.heap.size, 1, none⟩ = some (.int .i64 k2) := Bk7.out.cell 1
        have k2_ : w7.cell? ⟨w2.heap.size, 2, none⟩ = some (.int .i64 k3) := Bk7.out.cell 2
        have kl_ := Bk7.out.lt
        have t0_ : w7.cell? ⟨w2.heap.size + 1, 0, none⟩ = some (.int .i64 t1) := Bt7.out.cell 0
        have t1_ : w7.cell? ⟨w2.heap.size + 1, 1, none⟩ = some (.int .i64 t2) := Bt7.out.cell 1
        have t2_ : w7.cell? ⟨w2.heap.size + 1, 2, none⟩ = some (.int .i64 t3) := Bt7.out.cell 2
        have tl_ := Bt7.out.lt
        go_wp2_with fail
        clear e0_ e1_ e2_ e3_ e4_ e5_ e6_ e7_ el_ k0_ k1_ k2_ kl_ t0_ t1_ t2_ tl_
        have hz := clo_no E (k1, k2, k3)
        refine (ask_st (k := (k1, k2, k3)) (id := 1099511627776) (a := 1) (t := (0, 0, 0)) (E' := (e1 E (k1, k2, k3))) (J' := J) HK.out H0.out (hI _ (by decide) (by decide)) (by decide) (by unfold askE; rw [show entK (cloE E k1) (k1, k2, k3) = none from hz]; rfl) (by unfold askJ; rw [show entK (cloE E k1) (k1, k2, k3) = none from hz]) (by unfold askA; rw [show entK (cloE E k1) (k1, k2, k3) = none from hz]) (by unfold askT; rw [show entK (cloE E k1) (k1, k2, k3) = none from hz]) _ P7.out).mono ?_
        rintro e_ w8 ⟨rfl, ⟨F8, hp, hf⟩, hu⟩
        have U8 := Lib.hid (upd_step U7.out P7.out HB.out hu)
        have P8 := Lib.hid hp
        have Be8 := Lib.hid (Be7.out.upd hu Ne7.out)
        have Ne8 := Lib.hid (nb_step hf Be7.out Ne7.out)
        have Bk8 := Lib.hid (Bk7.out.upd hu Nk7.out)
        have Nk8 := Lib.hid (nb_step hf Bk7.out Nk7.out)
        have Bt8 := Lib.hid (Bt7.out.upd hu Nt7.out)
        have Nt8 := Lib.hid (nb_step hf Bt7.out Nt7.out)
        clear hu hp hf  U7 P7 Be7 Bk7 Bt7 Ne7 Nk7 Nt7
        clear hz
        have e0_ : w8.cell? ⟨w.heap.size, 0, none⟩ = some (.int .i64 k1) := Be8.out.cell 0
        have e1_ : w8.cell? ⟨w.heap.size, 1, none⟩ = some (.int .i64 k2) := Be8.out.cell 1
        have e2_ : w8.cell? ⟨w.heap.size, 2, none⟩ = some (.int .i64 k3) := Be8.out.cell 2
        have e3_ : w8.cell? ⟨w.heap.size, 3, none⟩ = some (.int .i64 id) := Be8.out.cell 3
        have e4_ : w8.cell? ⟨w.heap.size, 4, none⟩ = some (.bool dn) := Be8.out.cell 4
        have e5_ : w8.cell? ⟨w.heap.size, 5, none⟩ = some (.int .i64 t1) := Be8.out.cell 5
        have e6_ : w8.cell? ⟨w.heap.size, 6, none⟩ = some (.int .i64 t2) := Be8.out.cell 6
        have e7_ : w8.cell? ⟨w.heap.size, 7, none⟩ = some (.int .i64 t3) := Be8.out.cell 7
        have el_ := Be8.out.lt
        have k0_ : w8.cell? ⟨w2.heap.size, 0, none⟩ = some (.int .i64 k1) := Bk8.out.cell 0
        have k1_ : w8.cell? ⟨w2.heap.size, 1, none⟩ = some (.int .i64 k2) := Bk8.out.cell 1
        have k2_ : w8.cell? ⟨w2.heap.size, 2, none⟩ = some (.int .i64 k3) := Bk8.out.cell 2
        have kl_ := Bk8.out.lt
        have t0_ : w8.cell? ⟨w2.heap.size + 1, 0, none⟩ = some (.int .i64 t1) := Bt8.out.cell 0
        have t1_ : w8.cell? ⟨w2.heap.size + 1, 1, none⟩ = some (.int .i64 t2) := Bt8.out.cell 1
        have t2_ : w8.cell? ⟨w2.heap.size + 1, 2, none⟩ = some (.int .i64 t3) := Bt8.out.cell 2
        have tl_ := Bt8.out.lt
        go_upto_region 15 with fail
        clear e0_ e1_ e2_ e3_ e4_ e5_ e6_ e7_ el_ k0_ k1_ k2_ kl_ t0_ t1_ t2_ tl_
        refine Code.gen (fun W => Upd (fun _ => False) w8 W ∧ Blk W (w8.heap.size) 44 #[.int .i64 0, .int .i64 0, .int .i64 0]) ⟨(by repeat (first | exact Upd.refl _ _ | refine Upd.alloc ?_ _ | refine Upd.drew ?_ | refine Upd.drewN ?_ _ | refine Upd.put ?_ _ _)), by repeat (first | exact Blk.new _ _ _ | exact Blk.new1 _ _ _ _ | exact Blk.new2 _ _ _ _ _ | exact Blk.new3 _ _ _ _ _ _ | refine Blk.alloc ?_ _ | refine Blk.drew ?_)⟩ (fun w9 hW => ?_)
        obtain ⟨hu, hb0⟩ := hW
        have U9 := Lib.hid (U8.out.trans hu (fun _ h => h.elim))
        have P9 := Lib.hid (P8.out.upd0 hu)
        have Be9 := Lib.hid (Be8.out.upd hu (fun h => h))
        have Ne9 := Ne8
        have Bk9 := Lib.hid (Bk8.out.upd hu (fun h => h))
        have Nk9 := Nk8
        have Bt9 := Lib.hid (Bt8.out.upd hu (fun h => h))
        have Nt9 := Nt8
        clear hu hb0 U8 P8 Be8 Bk8 Bt8 Ne8 Nk8 Nt8
        clear Be9 Ne9
        obtain ⟨i0_, hj_, hz0, hz1, hz2⟩ := info_parts infoI
        have KLT := Lib.hid Bk9.out.lt
        have TLT := Lib.hid Bt9.out.lt
        go_wp2_with fail
        go_loopw [14, 15] (fun ov iv wr => ∃ (i : Nat) (F : Nat → Prop), i ≤ ct ∧ iv = .int .i64 i ∧ Hid (CS wr w3.heap.size gg bk bj F (e1 E (k1, k2, k3)) (jw J i) (100 + 1 + i)) ∧ Hid (wr.ownsRow w9.heap.size 3 1 ov i (nums (wants i))) ∧ Hid (Blk wr (w2.heap.size) 33 #[.int .i64 k1, .int .i64 k2, .int .i64 k3]) ∧ Hid (Blk wr (w2.heap.size + 1) 35 #[.int .i64 t1, .int .i64 t2, .int .i64 t3]) ∧ Hid (¬ F (w2.heap.size)) ∧ Hid (¬ F (w2.heap.size + 1)) ∧ Hid (∀ b, ov.ownBlock = some b → ¬ F b) ∧ Hid (w9.heap.size ≤ wr.heap.size) ∧ Hid (Upd (fun _ => False) w wr)) (fun _ iv _ => ct - (intOf iv).toNat)
        case atStart => exact ⟨0, _, Nat.zero_le _, rfl, Lib.hid (by rw [jw_zero]; exact P9.out), Lib.hid (by simpa [wants, nums] using own_nil w9 w9.heap.size 3 1), Bk9, Bt9, Nk9, Nt9, Lib.hid (fun b hb => by cases hb), Lib.hid (Nat.le_refl _), U9⟩
        case round =>
          obtain ⟨i, F, hi, rfl, HP, HO, HBK, HBT, HNK, HNT, HNO, HW, HU⟩ := hrel
          have i0 : (0 : Int) ≤ (i : Int) := Int.natCast_nonneg _
          have i9 : (i : Int) < 9 := by omega
          have j0 : wrap64 (2199023255552 + (i : Int)) = 2199023255552 + (i : Int) := by unfold wrap64; omega
          have j1 : IntKind.i64.wrap (2199023255552 + (i : Int)) = 2199023255552 + (i : Int) := by rw [IntKind.wrap_i64]; omega
          have hr1 : many.tmod 9 = (ct : Int) := hct
          have k0_ : wr.cell? ⟨w2.heap.size, 0, none⟩ = some (.int .i64 k1) := HBK.out.cell 0
          have k1_ : wr.cell? ⟨w2.heap.size, 1, none⟩ = some (.int .i64 k2) := HBK.out.cell 1
          have k2_ : wr.cell? ⟨w2.heap.size, 2, none⟩ = some (.int .i64 k3) := HBK.out.cell 2
          have kl_ := HBK.out.lt
          by_cases hit : i < ct
          · have i1 : (i : Int) < (ct : Int) := by omega
            go_wp2_with fail
            refine (key_to (k1, k2, k3) _).mono ?_
            rintro e_ wa ⟨rfl, hu⟩
            have Pa := Lib.hid (HP.out.upd0 hu)
            have Oa := Lib.hid (own_upd0 HO.out hu)
            have Ka := Lib.hid (HBK.out.upd hu (fun h => h))
            have Ta := Lib.hid (HBT.out.upd hu (fun h => h))
            have Ua := Lib.hid (HU.out.trans hu (fun _ h => h.elim))
            have HWa : Hid (w9.heap.size ≤ wa.heap.size) := Lib.hid (Nat.le_trans HW.out hu.size)
            clear hu k0_ k1_ k2_ kl_ HP HO HBK HBT HU HW
            go_wp2_with fail
            refine (ask_st (k := (k1, k2, k3)) (id := 2199023255552 + (i : Int)) (a := 2) (t := (0, 0, 0)) (E' := e1 E (k1, k2, k3)) (J' := jw J (i + 1)) HK.out H0.out (hI _ (by omega) (by omega)) (by omega) (by unfold askE; rw [ent1]; rfl) (by unfold askJ; rw [ent1, jw_succ]) (by unfold askA; rw [ent1]) (by unfold askT; rw [ent1]) _ Pa.out).mono ?_
            rintro e_ wb ⟨rfl, ⟨F2, hp, hf⟩, hu⟩
            have Pb := Lib.hid hp
            have Ob := Lib.hid (own_upd Oa.out hu HNO.out)
            have Kb := Lib.hid (Ka.out.upd hu HNK.out)
            have Tb := Lib.hid (Ta.out.upd hu HNT.out)
            have NKb := Lib.hid (nb_step hf Ka.out HNK.out)
            have NTb := Lib.hid (nb_step hf Ta.out HNT.out)
            have NOb : Hid (∀ b, u14.ownBlock = some b → ¬ F2 b) := Lib.hid (fun b hb h => (hf b h).elim (HNO.out b hb) (fun h => absurd (own_lt Oa.out hb) (Nat.not_lt.2 h)))
            have Ub := Lib.hid (upd_step Ua.out Pa.out HB.out hu)
            have HWb : Hid (w9.heap.size ≤ wb.heap.size) := Lib.hid (Nat.le_trans HWa.out hu.size)
            clear hu hp hf Pa Oa Ka Ta Ua HWa HNK HNT HNO
            go_upto_region 21 with fail
            refine Code.gen (fun W => Upd (fun _ => False) wb W) (by repeat (first | exact Upd.refl _ _ | refine Upd.alloc ?_ _ | refine Upd.drew ?_ | refine Upd.drewN ?_ _ | refine Upd.put ?_ _ _)) (fun wd hu => ?_)
            have Pd := Lib.hid (Pb.out.upd0 hu)
            have Od := Lib.hid (own_upd0 Ob.out hu)
            have Kd := Lib.hid (Kb.out.upd hu (fun h => h))
            have Td := Lib.hid (Tb.out.upd hu (fun h => h))
            have Ud := Lib.hid (Ub.out.trans hu (fun _ h => h.elim))
            have HWd : Hid (w9.heap.size ≤ wd.heap.size) := Lib.hid (Nat.le_trans HWb.out hu.size)
            obtain ⟨v2, w6, hr2, ho2, hg2, _, hat2⟩ := run_append_own_at (P := Try.prog) (w := wd.alloc (.cells #[.int .i64 (2199023255552 + (i : Int))] 3)) w9.heap.size 49 49 3 i0_ (.int .i64 0) 1 8 Try.underlying49 hj_ hz0 hz1 hz2 rfl (by decide) u14 i (nums (wants i)) (own_alloc Od.out _) ⟨wd.heap.size, 0, none⟩ 1 1 [.int .i64 (2199023255552 + (i : Int))] rfl (cell_one_new _ _ _) (by simp; rfl) (by unfold maxLen; omega) (by omega) (by have := HWd.out; simp; omega)
            have hu2 := Upd.of_grown hg2
            have O6 : Hid (w6.ownsRow w9.heap.size 3 1 v2 (i + 1) (nums (wants (i + 1)))) := Lib.hid (by rw [wants_succ, nums_app]; exact ho2)
            have FI : Hid (∃ F', CS w6 w3.heap.size gg bk bj F' (e1 E (k1, k2, k3)) (jw J (i + 1)) (100 + 1 + (i + 1)) ∧ Blk w6 (w2.heap.size) 33 #[.int .i64 k1, .int .i64 k2, .int .i64 k3] ∧ Blk w6 (w2.heap.size + 1) 35 #[.int .i64 t1, .int .i64 t2, .int .i64 t3] ∧ ¬ F' (w2.heap.size) ∧ ¬ F' (w2.heap.size + 1) ∧ (∀ b, v2.ownBlock = some b → ¬ F' b) ∧ w9.heap.size ≤ w6.heap.size ∧ Upd (fun _ => False) w w6) := Lib.hid (by
              have ha := (Upd.refl (fun _ => False) wd).alloc (.cells #[.int .i64 (2199023255552 + (i : Int))] 3)
              have oa := own_upd0 Od.out ha
              have hlow : ∀ b, b < w9.heap.size → ¬ u14.ownBlock = some b := fun b hb => own_ne oa hb
              refine ⟨F2, (Pd.out.upd0 ha).away NOb.out (fun b hb => own_is oa hb) hu2, (Kd.out.upd0_ ha).upd hu2 (hlow _ KLT.out), (Td.out.upd0_ ha).upd hu2 (hlow _ TLT.out), NKb.out, NTb.out, fun b hb => ?_, by have := hu2.size; have := HWd.out; simp at *; omega, (Ud.out.trans ha (fun _ h => h.elim)).trans hu2 (fun b hb => .inr (Nat.le_trans U9.out.size (own_ge oa hb)))⟩
              rcases hat2 with e | e
              · rw [e] at hb; exact NOb.out b hb
              · rw [e] at hb; injection hb with hb; simp at hb; exact Pd.out.nb (by omega))
            clear hat2 hg2
            clear ho2 hu2 hu
            go_wp2_with (at_builtin; refine wpList_append_run _ rfl _ _ _ rfl rfl rfl hr2 ?_)
            go_roundw
            case rel =>
              obtain ⟨F', f1, f2, f3, f4, f5, f6, f7, f8⟩ := FI.out
              exact ⟨i + 1, F', by omega, by go_num, Lib.hid f1, O6, Lib.hid f2, Lib.hid f3, Lib.hid f4, Lib.hid f5, Lib.hid f6, Lib.hid f7, Lib.hid f8⟩
            case measure => simp [intOf]; omega
          · obtain rfl : i = ct := by omega
            clear k0_ k1_ k2_ kl_
            obtain ⟨Aw, cw, rfl, hkp⟩ := kp_of_own HO.out HNO.out
            obtain ⟨w10, hww⟩ : ∃ z, z = wr := ⟨_, rfl⟩
            subst hww
            have P10 := Lib.hid (HP.out.more (show 100 + 1 + i ≤ 110 by omega))
            have Bk10 := HBK
            have Bt10 := HBT
            have Nk10 := HNK
            have Nt10 := HNT
            have U10 := HU
            have Kw10 := Lib.hid hkp
            clear hkp HP HBK HBT HNK HNT HU HO HNO HW

            have k0_ : w10.cell? ⟨w2.heap.size, 0, none⟩ = some (.int .i64 k1) := Bk10.out.cell 0
            have k1_ : w10.cell? ⟨w2.heap.size, 1, none⟩ = some (.int .i64 k2) := Bk10.out.cell 1
            have k2_ : w10.cell? ⟨w2.heap.size, 2, none⟩ = some (.int .i64 k3) := Bk10.out.cell 2
            have kl_ := Bk10.out.lt
            have t0_ : w10.cell? ⟨w2.heap.size + 1, 0, none⟩ = some (.int .i64 t1) := Bt10.out.cell 0
            have t1_ : w10.cell? ⟨w2.heap.size + 1, 1, none⟩ = some (.int .i64 t2) := Bt10.out.cell 1
            have t2_ : w10.cell? ⟨w2.heap.size + 1, 2, none⟩ = some (.int .i64 t3) := Bt10.out.cell 2
            have tl_ := Bt10.out.lt
            go_wp2_with fail
            clear k0_ k1_ k2_ kl_ t0_ t1_ t2_ tl_
            refine (told_to (t1, t2, t3) _).mono ?_
            rintro e_ w11 ⟨rfl, hu⟩
            have U11 := Lib.hid (U10.out.trans hu (fun _ h => h.elim))
            have P11 := Lib.hid (P10.out.upd0 hu)
            have Bk11 := Lib.hid (Bk10.out.upd hu (fun h => h))
            have Nk11 := Nk10
            have Bt11 := Lib.hid (Bt10.out.upd hu (fun h => h))
            have Nt11 := Nt10
            have Kw11 := Lib.hid (Kw10.out.keep0 hu)
            clear hu U10 P10 Bk10 Bt10 Nk10 Nt10 Kw10
            have k0_ : w11.cell? ⟨w2.heap.size, 0, none⟩ = some (.int .i64 k1) := Bk11.out.cell 0
            have k1_ : w11.cell? ⟨w2.heap.size, 1, none⟩ = some (.int .i64 k2) := Bk11.out.cell 1
            have k2_ : w11.cell? ⟨w2.heap.size, 2, none⟩ = some (.int .i64 k3) := Bk11.out.cell 2
            have kl_ := Bk11.out.lt
            have t0_ : w11.cell? ⟨w2.heap.size + 1, 0, none⟩ = some (.int .i64 t1) := Bt11.out.cell 0
            have t1_ : w11.cell? ⟨w2.heap.size + 1, 1, none⟩ = some (.int .i64 t2) := Bt11.out.cell 1
            have t2_ : w11.cell? ⟨w2.heap.size + 1, 2, none⟩ = some (.int .i64 t3) := Bt11.out.cell 2
            have tl_ := Bt11.out.lt
            go_wp2_with fail
            clear k0_ k1_ k2_ kl_ t0_ t1_ t2_ tl_
            refine (settle_st (id := 1099511627776) (t := (t1, t2, t3)) (E' := (setE (e1 E (k1, k2, k3)) 1099511627776 (t1, t2, t3))) (J' := (setJ (jw J i) 1099511627776)) (L := (wants i)) (n := i) (hI _ (by decide) (by decide)) (by decide) rfl rfl (jw_L HI.out i) (wants_len i) _ P11.out).mono ?_
            rintro e_ w12 ⟨Ag, cg, rfl, ⟨F12, hp, hf, hk⟩, hu⟩
            have U12 := Lib.hid (upd_step U11.out P11.out HB.out hu)
            have P12 := Lib.hid hp
            have Bk12 := Lib.hid (Bk11.out.upd hu Nk11.out)
            have Nk12 := Lib.hid (nb_step hf Bk11.out Nk11.out)
            have Bt12 := Lib.hid (Bt11.out.upd hu Nt11.out)
            have Nt12 := Lib.hid (nb_step hf Bt11.out Nt11.out)
            have Kw12 := Lib.hid (Kw11.out.step hu (fun _ h => .inl h) hf)
            have Kg12 := Lib.hid hk
            clear hu hp hf hk U11 P11 Bk11 Bt11 Nk11 Nt11 Kw11
            have k0_ : w12.cell? ⟨w2.heap.size, 0, none⟩ = some (.int .i64 k1) := Bk12.out.cell 0
            have k1_ : w12.cell? ⟨w2.heap.size, 1, none⟩ = some (.int .i64 k2) := Bk12.out.cell 1
            have k2_ : w12.cell? ⟨w2.heap.size, 2, none⟩ = some (.int .i64 k3) := Bk12.out.cell 2
            have kl_ := Bk12.out.lt
            have t0_ : w12.cell? ⟨w2.heap.size + 1, 0, none⟩ = some (.int .i64 t1) := Bt12.out.cell 0
            have t1_ : w12.cell? ⟨w2.heap.size + 1, 1, none⟩ = some (.int .i64 t2) := Bt12.out.cell 1
            have t2_ : w12.cell? ⟨w2.heap.size + 1, 2, none⟩ = some (.int .i64 t3) := Bt12.out.cell 2
            have tl_ := Bt12.out.lt
            go_wp2_with fail
            clear k0_ k1_ k2_ kl_ t0_ t1_ t2_ tl_
            refine (told_to (t1, t2, t3) _).mono ?_
            rintro e_ w13 ⟨rfl, hu⟩
            have U13 := Lib.hid (U12.out.trans hu (fun _ h => h.elim))
            have P13 := Lib.hid (P12.out.upd0 hu)
            have Bk13 := Lib.hid (Bk12.out.upd hu (fun h => h))
            have Nk13 := Nk12
            have Bt13 := Lib.hid (Bt12.out.upd hu (fun h => h))
            have Nt13 := Nt12
            have Kw13 := Lib.hid (Kw12.out.keep0 hu)
            have Kg13 := Lib.hid (Kg12.out.keep0 hu)
            clear hu U12 P12 Bk12 Bt12 Nk12 Nt12 Kw12 Kg12
            have k0_ : w13.cell? ⟨w2.heap.size, 0, none⟩ = some (.int .i64 k1) := Bk13.out.cell 0
            have k1_ : w13.cell? ⟨w2.heap.size, 1, none⟩ = some (.int .i64 k2) := Bk13.out.cell 1
            have k2_ : w13.cell? ⟨w2.heap.size, 2, none⟩ = some (.int .i64 k3) := Bk13.out.cell 2
            have kl_ := Bk13.out.lt
            have t0_ : w13.cell? ⟨w2.heap.size + 1, 0, none⟩ = some (.int .i64 t1) := Bt13.out.cell 0
            have t1_ : w13.cell? ⟨w2.heap.size + 1, 1, none⟩ = some (.int .i64 t2) := Bt13.out.cell 1
            have t2_ : w13.cell? ⟨w2.heap.size + 1, 2, none⟩ = some (.int .i64 t3) := Bt13.out.cell 2
            have tl_ := Bt13.out.lt
            go_wp2_with fail
            clear k0_ k1_ k2_ kl_ t0_ t1_ t2_ tl_
            refine (settle_st (id := 1099511627776) (t := (t1, t2, t3)) (E' := (setE (setE (e1 E (k1, k2, k3)) 1099511627776 (t1, t2, t3)) 1099511627776 (t1, t2, t3))) (J' := (setJ (setJ (jw J i) 1099511627776) 1099511627776)) (L := []) (n := 0) (hI _ (by decide) (by decide)) (by decide) rfl rfl (setL_same _ _) rfl _ P13.out).mono ?_
            rintro e_ w14 ⟨Ah, ch, rfl, ⟨F14, hp, hf, hk⟩, hu⟩
            have U14 := Lib.hid (upd_step U13.out P13.out HB.out hu)
            have P14 := Lib.hid hp
            have Bk14 := Lib.hid (Bk13.out.upd hu Nk13.out)
            have Nk14 := Lib.hid (nb_step hf Bk13.out Nk13.out)
            have Bt14 := Lib.hid (Bt13.out.upd hu Nt13.out)
            have Nt14 := Lib.hid (nb_step hf Bt13.out Nt13.out)
            have Kw14 := Lib.hid (Kw13.out.step hu (fun _ h => .inl h) hf)
            have Kg14 := Lib.hid (Kg13.out.step hu (fun _ h => .inl h) hf)
            have Kh14 := Lib.hid hk
            clear hu hp hf hk U13 P13 Bk13 Bt13 Nk13 Nt13 Kw13 Kg13
            clear Kh14
            have k0_ : w14.cell? ⟨w2.heap.size, 0, none⟩ = some (.int .i64 k1) := Bk14.out.cell 0
            have k1_ : w14.cell? ⟨w2.heap.size, 1, none⟩ = some (.int .i64 k2) := Bk14.out.cell 1
            have k2_ : w14.cell? ⟨w2.heap.size, 2, none⟩ = some (.int .i64 k3) := Bk14.out.cell 2
            have kl_ := Bk14.out.lt
            have t0_ : w14.cell? ⟨w2.heap.size + 1, 0, none⟩ = some (.int .i64 t1) := Bt14.out.cell 0
            have t1_ : w14.cell? ⟨w2.heap.size + 1, 1, none⟩ = some (.int .i64 t2) := Bt14.out.cell 1
            have t2_ : w14.cell? ⟨w2.heap.size + 1, 2, none⟩ = some (.int .i64 t3) := Bt14.out.cell 2
            have tl_ := Bt14.out.lt
            go_wp2_with fail
            clear k0_ k1_ k2_ kl_ t0_ t1_ t2_ tl_
            refine (key_to (k1, k2, k3) _).mono ?_
            rintro e_ w15 ⟨rfl, hu⟩
            have U15 := Lib.hid (U14.out.trans hu (fun _ h => h.elim))
            have P15 := Lib.hid (P14.out.upd0 hu)
            have Bk15 := Lib.hid (Bk14.out.upd hu (fun h => h))
            have Nk15 := Nk14
            have Bt15 := Lib.hid (Bt14.out.upd hu (fun h => h))
            have Nt15 := Nt14
            have Kw15 := Lib.hid (Kw14.out.keep0 hu)
            have Kg15 := Lib.hid (Kg14.out.keep0 hu)
            clear hu U14 P14 Bk14 Bt14 Nk14 Nt14 Kw14 Kg14
            have k0_ : w15.cell? ⟨w2.heap.size, 0, none⟩ = some (.int .i64 k1) := Bk15.out.cell 0
            have k1_ : w15.cell? ⟨w2.heap.size, 1, none⟩ = some (.int .i64 k2) := Bk15.out.cell 1
            have k2_ : w15.cell? ⟨w2.heap.size, 2, none⟩ = some (.int .i64 k3) := Bk15.out.cell 2
            have kl_ := Bk15.out.lt
            have t0_ : w15.cell? ⟨w2.heap.size + 1, 0, none⟩ = some (.int .i64 t1) := Bt15.out.cell 0
            have t1_ : w15.cell? ⟨w2.heap.size + 1, 1, none⟩ = some (.int .i64 t2) := Bt15.out.cell 1
            have t2_ : w15.cell? ⟨w2.heap.size + 1, 2, none⟩ = some (.int .i64 t3) := Bt15.out.cell 2
            have tl_ := Bt15.out.lt
            go_wp2_with fail
            clear k0_ k1_ k2_ kl_ t0_ t1_ t2_ tl_
            have hz := ent_set (t := (t1, t2, t3)) (ent_set (t := (t1, t2, t3)) (ent1 E (k1, k2, k3)))
            refine (ask_st (k := (k1, k2, k3)) (id := 5) (a := 3) (t := (t1, t2, t3)) (E' := (setE (setE (e1 E (k1, k2, k3)) 1099511627776 (t1, t2, t3)) 1099511627776 (t1, t2, t3))) (J' := (setJ (setJ (jw J i) 1099511627776) 1099511627776)) HK.out H0.out (hI _ (by decide) (by decide)) (by decide) (by unfold askE; rw [hz]; rfl) (by unfold askJ; rw [hz]) (by unfold askA; rw [hz]) (by unfold askT; rw [hz]) _ P15.out).mono ?_
            rintro e_ w16 ⟨rfl, ⟨F16, hp, hf⟩, hu⟩
            have U16 := Lib.hid (upd_step U15.out P15.out HB.out hu)
            have P16 := Lib.hid hp
            have Bk16 := Lib.hid (Bk15.out.upd hu Nk15.out)
            have Nk16 := Lib.hid (nb_step hf Bk15.out Nk15.out)
            have Bt16 := Lib.hid (Bt15.out.upd hu Nt15.out)
            have Nt16 := Lib.hid (nb_step hf Bt15.out Nt15.out)
            have Kw16 := Lib.hid (Kw15.out.step hu (fun _ h => .inl h) hf)
            have Kg16 := Lib.hid (Kg15.out.step hu (fun _ h => .inl h) hf)
            clear hu hp hf  U15 P15 Bk15 Bt15 Nk15 Nt15 Kw15 Kg15
            clear hz
            have k0_ : w16.cell? ⟨w2.heap.size, 0, none⟩ = some (.int .i64 k1) := Bk16.out.cell 0
            have k1_ : w16.cell? ⟨w2.heap.size, 1, none⟩ = some (.int .i64 k2) := Bk16.out.cell 1
            have k2_ : w16.cell? ⟨w2.heap.size, 2, none⟩ = some (.int .i64 k3) := Bk16.out.cell 2
            have kl_ := Bk16.out.lt
            have t0_ : w16.cell? ⟨w2.heap.size + 1, 0, none⟩ = some (.int .i64 t1) := Bt16.out.cell 0
            have t1_ : w16.cell? ⟨w2.heap.size + 1, 1, none⟩ = some (.int .i64 t2) := Bt16.out.cell 1
            have t2_ : w16.cell? ⟨w2.heap.size + 1, 2, none⟩ = some (.int .i64 t3) := Bt16.out.cell 2
            have tl_ := Bt16.out.lt
            go_wp2_with fail
            clear k0_ k1_ k2_ kl_ t0_ t1_ t2_ tl_
            refine Calls.gen (fun W => Upd (fun _ => False) w16 W ∧ Blk W (w16.heap.size) 44 #[.int .i64 t1, .int .i64 t2, .int .i64 t3]) ⟨(by repeat (first | exact Upd.refl _ _ | refine Upd.alloc ?_ _ | refine Upd.drew ?_ | refine Upd.drewN ?_ _ | refine Upd.put ?_ _ _)), by repeat (first | exact Blk.new _ _ _ | exact Blk.new1 _ _ _ _ | exact Blk.new2 _ _ _ _ _ | exact Blk.new3 _ _ _ _ _ _ | refine Blk.alloc ?_ _ | refine Blk.drew ?_)⟩ (fun w17 hW => ?_)
            obtain ⟨hu, hb0⟩ := hW
            have U17 := Lib.hid (U16.out.trans hu (fun _ h => h.elim))
            have P17 := Lib.hid (P16.out.upd0 hu)
            have Bk17 := Lib.hid (Bk16.out.upd hu (fun h => h))
            have Nk17 := Nk16
            have Bt17 := Lib.hid (Bt16.out.upd hu (fun h => h))
            have Nt17 := Nt16
            have Kw17 := Lib.hid (Kw16.out.keep0 hu)
            have Kg17 := Lib.hid (Kg16.out.keep0 hu)
            have Bu17 := Lib.hid hb0
            have Nu17 := Lib.hid (P16.out.nb (b := w16.heap.size) (by omega))
            clear hu hb0 U16 P16 Bk16 Bt16 Nk16 Nt16 Kw16 Kg16
            refine (close_to k1 (by decide) _ P17.out).mono ?_
            rintro e_ w18 ⟨rfl, hp, hu⟩
            have hu := hu.mono (S' := F16) (fun i hi => .inl (by rw [show i = bk from hi]; exact P17.out.fk))
            have U18 := Lib.hid (upd_step U17.out P17.out HB.out hu)
            have P18 := Lib.hid hp
            have Bk18 := Lib.hid (Bk17.out.upd hu Nk17.out)
            have Nk18 := Nk17
            have Bt18 := Lib.hid (Bt17.out.upd hu Nt17.out)
            have Nt18 := Nt17
            have Bu18 := Lib.hid (Bu17.out.upd hu Nu17.out)
            have Nu18 := Nu17
            have Kw18 := Lib.hid (Kw17.out.keep hu (fun _ h => h))
            have Kg18 := Lib.hid (Kg17.out.keep hu (fun _ h => h))
            clear hu hp U17 P17 Bk17 Bt17 Bu17 Nk17 Nt17 Nu17 Kw17 Kg17
            have k0_ : w18.cell? ⟨w2.heap.size, 0, none⟩ = some (.int .i64 k1) := Bk18.out.cell 0
            have k1_ : w18.cell? ⟨w2.heap.size, 1, none⟩ = some (.int .i64 k2) := Bk18.out.cell 1
            have k2_ : w18.cell? ⟨w2.heap.size, 2, none⟩ = some (.int .i64 k3) := Bk18.out.cell 2
            have kl_ := Bk18.out.lt
            have t0_ : w18.cell? ⟨w2.heap.size + 1, 0, none⟩ = some (.int .i64 t1) := Bt18.out.cell 0
            have t1_ : w18.cell? ⟨w2.heap.size + 1, 1, none⟩ = some (.int .i64 t2) := Bt18.out.cell 1
            have t2_ : w18.cell? ⟨w2.heap.size + 1, 2, none⟩ = some (.int .i64 t3) := Bt18.out.cell 2
            have tl_ := Bt18.out.lt
            have u0_ : w18.cell? ⟨w16.heap.size, 0, none⟩ = some (.int .i64 t1) := Bu18.out.cell 0
            have u1_ : w18.cell? ⟨w16.heap.size, 1, none⟩ = some (.int .i64 t2) := Bu18.out.cell 1
            have u2_ : w18.cell? ⟨w16.heap.size, 2, none⟩ = some (.int .i64 t3) := Bu18.out.cell 2
            have ul_ := Bu18.out.lt
            go_wp2_with fail
            clear k0_ k1_ k2_ kl_ t0_ t1_ t2_ tl_ u0_ u1_ u2_ ul_
            refine (key_to (k1, k2, k3) _).mono ?_
            rintro e_ w19 ⟨rfl, hu⟩
            have U19 := Lib.hid (U18.out.trans hu (fun _ h => h.elim))
            have P19 := Lib.hid (P18.out.upd0 hu)
            have Bk19 := Lib.hid (Bk18.out.upd hu (fun h => h))
            have Nk19 := Nk18
            have Bt19 := Lib.hid (Bt18.out.upd hu (fun h => h))
            have Nt19 := Nt18
            have Bu19 := Lib.hid (Bu18.out.upd hu (fun h => h))
            have Nu19 := Nu18
            have Kw19 := Lib.hid (Kw18.out.keep0 hu)
            have Kg19 := Lib.hid (Kg18.out.keep0 hu)
            clear hu U18 P18 Bk18 Bt18 Bu18 Nk18 Nt18 Nu18 Kw18 Kg18
            have k0_ : w19.cell? ⟨w2.heap.size, 0, none⟩ = some (.int .i64 k1) := Bk19.out.cell 0
            have k1_ : w19.cell? ⟨w2.heap.size, 1, none⟩ = some (.int .i64 k2) := Bk19.out.cell 1
            have k2_ : w19.cell? ⟨w2.heap.size, 2, none⟩ = some (.int .i64 k3) := Bk19.out.cell 2
            have kl_ := Bk19.out.lt
            have t0_ : w19.cell? ⟨w2.heap.size + 1, 0, none⟩ = some (.int .i64 t1) := Bt19.out.cell 0
            have t1_ : w19.cell? ⟨w2.heap.size + 1, 1, none⟩ = some (.int .i64 t2) := Bt19.out.cell 1
            have t2_ : w19.cell? ⟨w2.heap.size + 1, 2, none⟩ = some (.int .i64 t3) := Bt19.out.cell 2
            have tl_ := Bt19.out.lt
            have u0_ : w19.cell? ⟨w16.heap.size, 0, none⟩ = some (.int .i64 t1) := Bu19.out.cell 0
            have u1_ : w19.cell? ⟨w16.heap.size, 1, none⟩ = some (.int .i64 t2) := Bu19.out.cell 1
            have u2_ : w19.cell? ⟨w16.heap.size, 2, none⟩ = some (.int .i64 t3) := Bu19.out.cell 2
            have ul_ := Bu19.out.lt
            go_wp2_with fail
            clear k0_ k1_ k2_ kl_ t0_ t1_ t2_ tl_ u0_ u1_ u2_ ul_
            have hz := clo_no (setE (setE (e1 E (k1, k2, k3)) 1099511627776 (t1, t2, t3)) 1099511627776 (t1, t2, t3)) (k1, k2, k3)
            refine (ask_st (k := (k1, k2, k3)) (id := 6) (a := 1) (t := (0, 0, 0)) (E' := (cloE (setE (setE (e1 E (k1, k2, k3)) 1099511627776 (t1, t2, t3)) 1099511627776 (t1, t2, t3)) k1 ++ [⟨(k1, k2, k3), 6, none⟩])) (J' := (setJ (setJ (jw J i) 1099511627776) 1099511627776)) HK.out H0.out (hI _ (by decide) (by decide)) (by decide) (by unfold askE; rw [show entK (cloE (setE (setE (e1 E (k1, k2, k3)) 1099511627776 (t1, t2, t3)) 1099511627776 (t1, t2, t3)) k1) (k1, k2, k3) = none from hz]; rfl) (by unfold askJ; rw [show entK (cloE (setE (setE (e1 E (k1, k2, k3)) 1099511627776 (t1, t2, t3)) 1099511627776 (t1, t2, t3)) k1) (k1, k2, k3) = none from hz]) (by unfold askA; rw [show entK (cloE (setE (setE (e1 E (k1, k2, k3)) 1099511627776 (t1, t2, t3)) 1099511627776 (t1, t2, t3)) k1) (k1, k2, k3) = none from hz]) (by unfold askT; rw [show entK (cloE (setE (setE (e1 E (k1, k2, k3)) 1099511627776 (t1, t2, t3)) 1099511627776 (t1, t2, t3)) k1) (k1, k2, k3) = none from hz]) _ P19.out).mono ?_
            rintro e_ w20 ⟨rfl, ⟨F20, hp, hf⟩, hu⟩
            have U20 := Lib.hid (upd_step U19.out P19.out HB.out hu)
            have P20 := Lib.hid hp
            have Bk20 := Lib.hid (Bk19.out.upd hu Nk19.out)
            have Nk20 := Lib.hid (nb_step hf Bk19.out Nk19.out)
            have Bt20 := Lib.hid (Bt19.out.upd hu Nt19.out)
            have Nt20 := Lib.hid (nb_step hf Bt19.out Nt19.out)
            have Bu20 := Lib.hid (Bu19.out.upd hu Nu19.out)
            have Nu20 := Lib.hid (nb_step hf Bu19.out Nu19.out)
            have Kw20 := Lib.hid (Kw19.out.step hu (fun _ h => .inl h) hf)
            have Kg20 := Lib.hid (Kg19.out.step hu (fun _ h => .inl h) hf)
            clear hu hp hf  U19 P19 Bk19 Bt19 Bu19 Nk19 Nt19 Nu19 Kw19 Kg19
            clear hz
            have k0_ : w20.cell? ⟨w2.heap.size, 0, none⟩ = some (.int .i64 k1) := Bk20.out.cell 0
            have k1_ : w20.cell? ⟨w2.heap.size, 1, none⟩ = some (.int .i64 k2) := Bk20.out.cell 1
            have k2_ : w20.cell? ⟨w2.heap.size, 2, none⟩ = some (.int .i64 k3) := Bk20.out.cell 2
            have kl_ := Bk20.out.lt
            have t0_ : w20.cell? ⟨w2.heap.size + 1, 0, none⟩ = some (.int .i64 t1) := Bt20.out.cell 0
            have t1_ : w20.cell? ⟨w2.heap.size + 1, 1, none⟩ = some (.int .i64 t2) := Bt20.out.cell 1
            have t2_ : w20.cell? ⟨w2.heap.size + 1, 2, none⟩ = some (.int .i64 t3) := Bt20.out.cell 2
            have tl_ := Bt20.out.lt
            have u0_ : w20.cell? ⟨w16.heap.size, 0, none⟩ = some (.int .i64 t1) := Bu20.out.cell 0
            have u1_ : w20.cell? ⟨w16.heap.size, 1, none⟩ = some (.int .i64 t2) := Bu20.out.cell 1
            have u2_ : w20.cell? ⟨w16.heap.size, 2, none⟩ = some (.int .i64 t3) := Bu20.out.cell 2
            have ul_ := Bu20.out.lt
            go_upto_region 27 with fail
            clear k0_ k1_ k2_ kl_ t0_ t1_ t2_ tl_ u0_ u1_ u2_ ul_
            refine Code.gen (fun W => Upd (fun _ => False) w20 W ∧ Blk W (w20.heap.size) 44 #[.int .i64 0, .int .i64 0, .int .i64 0]) ⟨(by repeat (first | exact Upd.refl _ _ | refine Upd.alloc ?_ _ | refine Upd.drew ?_ | refine Upd.drewN ?_ _ | refine Upd.put ?_ _ _)), by repeat (first | exact Blk.new _ _ _ | exact Blk.new1 _ _ _ _ | exact Blk.new2 _ _ _ _ _ | exact Blk.new3 _ _ _ _ _ _ | refine Blk.alloc ?_ _ | refine Blk.drew ?_)⟩ (fun w21 hW => ?_)
            obtain ⟨hu, hb0⟩ := hW
            have U21 := Lib.hid (U20.out.trans hu (fun _ h => h.elim))
            have P21 := Lib.hid (P20.out.upd0 hu)
            have Bk21 := Lib.hid (Bk20.out.upd hu (fun h => h))
            have Nk21 := Nk20
            have Bt21 := Lib.hid (Bt20.out.upd hu (fun h => h))
            have Nt21 := Nt20
            have Bu21 := Lib.hid (Bu20.out.upd hu (fun h => h))
            have Nu21 := Nu20
            have Kw21 := Lib.hid (Kw20.out.keep0 hu)
            have Kg21 := Lib.hid (Kg20.out.keep0 hu)
            clear hu hb0 U20 P20 Bk20 Bt20 Bu20 Nk20 Nt20 Nu20 Kw20 Kg20
            clear Bk21 Nk21
            have au0_ : w21.cell? ⟨w16.heap.size, 0, none⟩ = some (.int .i64 t1) := Bu21.out.cell 0
            have au1_ : w21.cell? ⟨w16.heap.size, 1, none⟩ = some (.int .i64 t2) := Bu21.out.cell 1
            have au2_ : w21.cell? ⟨w16.heap.size, 2, none⟩ = some (.int .i64 t3) := Bu21.out.cell 2
            have at0_ : w21.cell? ⟨w2.heap.size + 1, 0, none⟩ = some (.int .i64 t1) := Bt21.out.cell 0
            have at1_ : w21.cell? ⟨w2.heap.size + 1, 1, none⟩ = some (.int .i64 t2) := Bt21.out.cell 1
            have at2_ : w21.cell? ⟨w2.heap.size + 1, 2, none⟩ = some (.int .i64 t3) := Bt21.out.cell 2
            have aul := Bu21.out.lt
            have atl := Bt21.out.lt
            have heq : ∀ w, (Op.equalIn 10000 44 (.agg #[.int .i64 t1, .int .i64 t2, .int .i64 t3]) (.agg #[.int .i64 t1, .int .i64 t2, .int .i64 t3])).run Try.prog w = .ok true w := fun w => by have h := eqT (t1, t2, t3) (t1, t2, t3) w; rw [decide_eq_true rfl] at h; exact h
            have hgd : ∀ (op : BinOp) (a b : Operand) (w : World), (eqGuard op 44 a b (.agg #[.int .i64 t1, .int .i64 t2, .int .i64 t3]) (.agg #[.int .i64 t1, .int .i64 t2, .int .i64 t3])).run Try.prog w = .ok () w := fun op a b w => gdT op a b (t1, t2, t3) (t1, t2, t3) w
            go_wp2_with fail
            go_region_held3 (fun w' => w'.cell? ⟨w16.heap.size, 0, none⟩ = some (.int .i64 t1) ∧ w'.cell? ⟨w16.heap.size, 1, none⟩ = some (.int .i64 t2) ∧ w'.cell? ⟨w16.heap.size, 2, none⟩ = some (.int .i64 t3) ∧ w'.cell? ⟨w2.heap.size + 1, 0, none⟩ = some (.int .i64 t1) ∧ w'.cell? ⟨w2.heap.size + 1, 1, none⟩ = some (.int .i64 t2) ∧ w'.cell? ⟨w2.heap.size + 1, 2, none⟩ = some (.int .i64 t3)) (go_keep) (first | (go_at_call 19; refine (same_to (l := wants i) (wants_len i) (by omega) _ (Kg21.out.sl.upd0 (Upd.refl _ _).drew) (Kw21.out.sl.upd0 (Upd.refl _ _).drew)).mono ?_; rintro e_ wx ⟨rfl, hu⟩; have Vx : Hid (Upd (fun _ => False) w21 wx) := Lib.hid (Upd.trans (by repeat (first | exact Upd.refl _ _ | refine Upd.alloc ?_ _ | refine Upd.drew ?_ | refine Upd.drewN ?_ _)) hu (fun _ h => h.elim)); have bu := Bu21.out.upd Vx.out (fun h => h); have bt := Bt21.out.upd Vx.out (fun h => h); have bu0_ : wx.cell? ⟨w16.heap.size, 0, none⟩ = some (.int .i64 t1) := bu.cell 0; have bu1_ : wx.cell? ⟨w16.heap.size, 1, none⟩ = some (.int .i64 t2) := bu.cell 1; have bu2_ : wx.cell? ⟨w16.heap.size, 2, none⟩ = some (.int .i64 t3) := bu.cell 2; have bt0_ : wx.cell? ⟨w2.heap.size + 1, 0, none⟩ = some (.int .i64 t1) := bt.cell 0; have bt1_ : wx.cell? ⟨w2.heap.size + 1, 1, none⟩ = some (.int .i64 t2) := bt.cell 1; have bt2_ : wx.cell? ⟨w2.heap.size + 1, 2, none⟩ = some (.int .i64 t3) := bt.cell 2; have bul := bu.lt; have btl := bt.lt; clear hu bu bt) | (go_at_call 18; refine (told_to (t1, t2, t3) _).mono ?_; rintro e_ wy ⟨rfl, hu⟩; have Vy : Hid (Upd (fun _ => False) w21 wy) := Lib.hid (Vx.out.trans hu (fun _ h => h.elim)); have bu := Bu21.out.upd Vy.out (fun h => h); have bt := Bt21.out.upd Vy.out (fun h => h); have cu0_ : wy.cell? ⟨w16.heap.size, 0, none⟩ = some (.int .i64 t1) := bu.cell 0; have cu1_ : wy.cell? ⟨w16.heap.size, 1, none⟩ = some (.int .i64 t2) := bu.cell 1; have cu2_ : wy.cell? ⟨w16.heap.size, 2, none⟩ = some (.int .i64 t3) := bu.cell 2; have ct0_ : wy.cell? ⟨w2.heap.size + 1, 0, none⟩ = some (.int .i64 t1) := bt.cell 0; have ct1_ : wy.cell? ⟨w2.heap.size + 1, 1, none⟩ = some (.int .i64 t2) := bt.cell 1; have ct2_ : wy.cell? ⟨w2.heap.size + 1, 2, none⟩ = some (.int .i64 t3) := bt.cell 2; have cul := bu.lt; have ctl := bt.lt; clear hu bu bt))
            all_goals
              go_wp2
              go_ret
              exact ⟨rfl, (U21.out.trans Vy.out (fun _ h => h.elim)).below0⟩
theorem cone_walk {w : World} (A9 : Option Addr) (len9 cap9 : Nat) (L9 : List (List Value)) (hL9 : L9.length = len9) (hlc9 : len9 ≤ cap9) (hm9 : cap9 ≤ maxLen) (hn9 : A9 = none → len9 = 0 ∧ cap9 = 0) (hok9 : ∀ row ∈ L9, Oks d8s row) (hr9 : Rows w A9 8 L9)
    (c1 : Array Value) (w1 : Oks [.int .i64, .int .i64, .int .i64, .int .i64, .bool, .int .i64, .int .i64, .int .i64] c1.toList) (a2 : Int) (w2 : (Lit.int .u8 a2).wf = true) :
    Calls Try.prog 4 #[.slice A9 len9 cap9, .agg c1, .int .u8 a2] w fun e w' => e = .returned (.bool true) ∧ Below w.heap.size w w' := by
  obtain ⟨l, hl, hwf, hs⟩ := sl_rows (enc := d8) d8_len (by decide) d8_dec hL9 hlc9 hm9 hn9 hok9 hr9
  unfold maxLen at hm9
  obtain ⟨k1, k2, k3, id, t1, t2, t3, dn, e, hk⟩ := e8_dec _ w1
  obtain rfl : c1 = #[.int .i64 k1, .int .i64 k2, .int .i64 k3, .int .i64 id, .bool dn, .int .i64 t1, .int .i64 t2, .int .i64 t3] := by obtain ⟨c1⟩ := c1; simp only at e; rw [e]
  have hmn : IntKind.u8.min = 0 := by decide
  have hmx : IntKind.u8.max = 255 := by decide
  simp only [Lit.wf, hmn, hmx, Bool.and_eq_true, decide_eq_true_eq] at w2
  exact cone_any A9 len9 cap9 l hl (by omega) hwf k1 k2 k3 id t1 t2 t3 dn a2 (by omega) (by omega) hk w hs
end Go.Proofs.Ytninaaolbgchpaa
