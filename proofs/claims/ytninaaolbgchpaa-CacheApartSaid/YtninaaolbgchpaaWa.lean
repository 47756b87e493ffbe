/- CacheApart. -/
import Derived.Test.YtninaaolbgchpaaRn
namespace Go.Proofs.Ytninaaolbgchpaa
open Go.RowKit
set_option linter.unusedVariables false
set_option linter.unusedSimpArgs false

theorem ent_ask {E : List En} {q k : K3} {id : Int} (h : q ≠ k) : entK (zE E q id) k = entK E k := by
  unfold zE askE
  split
  · rfl
  · split
    · rfl
    · unfold entK
      rw [List.find?_append]
      simp [h]
theorem ent_clo {E : List En} {s : Int} {k : K3} (h : s ≠ k.1) : entK (cloE E s) k = entK E k := by
  unfold entK cloE
  rw [List.find?_filter]
  congr 1
  funext e
  by_cases hk : e.k = k
  · subst hk
    simp [Ne.symm h]
  · simp [hk]
theorem ans_same {E E' : List En} {k : K3} (h : entK E' k = entK E k) : zA E' k = zA E k ∧ zT E' k = zT E k := by
  unfold zA zT askA askT
  rw [h]
  exact ⟨rfl, rfl⟩
theorem apart_law {E : List En} {kd id : Int} {q k t : K3} (h1 : q ≠ k) (h2 : kd ≠ 2) (h3 : kd = 1 ∨ q.1 ≠ k.1) : zA (dE E kd id q t) k = zA E k ∧ zT (dE E kd id q t) k = zT E k := by
  refine ans_same ?_
  unfold dE
  by_cases hk : kd = 1
  · rw [if_pos hk]
    exact ent_ask h1
  · rw [if_neg hk, if_neg h2]
    exact ent_clo (h3.resolve_left hk)
set_option maxHeartbeats 8000000 in
set_option maxRecDepth 100000 in
theorem capart_any (L : Option Addr) (len cap : Nat) (l : List D8) (hl : l.length = len) (hm : len ≤ 9223372036854775807) (hwf : ∀ x ∈ l, dok x) (kd id : Int) (q tt k : K3) (hid : iok id) (hq : kok q) (hk : kok k) (w : World) (hs : Sl w L len cap (fl d8 l)) :
    Calls Try.prog 5 #[.slice L len cap, .agg (dv kd id q tt), kval k] w fun e w' => e = .returned (.bool true) ∧ Below w.heap.size w w' := by
  obtain ⟨d1, d2, d3⟩ := q
  obtain ⟨t1, t2, t3⟩ := tt
  obtain ⟨k1, k2, k3⟩ := k
  have HL := Lib.hid hl
  have HWF := Lib.hid hwf
  have HS := Lib.hid hs
  have HID := Lib.hid hid
  have HQ := Lib.hid hq
  have HK := Lib.hid hk
  clear hl hwf hs hid hq hk
  go_enter Try.func5, Try.ntmps5
  go_wp2_with fail
  refine Calls.gen (fun W => Upd (fun _ => False) w W ∧ Blk W w.heap.size 37 #[.int .i64 kd, .int .i64 id, .int .i64 d1, .int .i64 d2, .int .i64 d3, .int .i64 t1, .int .i64 t2, .int .i64 t3] ∧ Blk W (w.heap.size + 1) 33 #[.int .i64 k1, .int .i64 k2, .int .i64 k3]) ⟨(by repeat (first | exact Upd.refl _ _ | refine Upd.alloc ?_ _ | refine Upd.drew ?_ | refine Upd.drewN ?_ _ | refine Upd.put ?_ _ _)), (Blk.new w _ _).alloc _, Blk.new1 w _ _ _⟩ (fun w9 hW => ?_)
  obtain ⟨hu9, hb1, hb2⟩ := hW
  refine (awake_to _).mono ?_
  rintro e_ w0 ⟨rfl, hu⟩
  have U0 := Lib.hid (hu9.trans hu (fun _ h => h.elim))
  have BD0 := Lib.hid (hb1.upd hu (fun h => h))
  have BK0 := Lib.hid (hb2.upd hu (fun h => h))
  clear hu9 hb1 hb2 hu
  have d00_ : w0.cell? ⟨w.heap.size, 0, none⟩ = some (.int .i64 kd) := BD0.out.cell 0
  have d01_ : w0.cell? ⟨w.heap.size, 1, none⟩ = some (.int .i64 id) := BD0.out.cell 1
  have d02_ : w0.cell? ⟨w.heap.size, 2, none⟩ = some (.int .i64 d1) := BD0.out.cell 2
  have d03_ : w0.cell? ⟨w.heap.size, 3, none⟩ = some (.int .i64 d2) := BD0.out.cell 3
  have d04_ : w0.cell? ⟨w.heap.size, 4, none⟩ = some (.int .i64 d3) := BD0.out.cell 4
  have d05_ : w0.cell? ⟨w.heap.size, 5, none⟩ = some (.int .i64 t1) := BD0.out.cell 5
  have d06_ : w0.cell? ⟨w.heap.size, 6, none⟩ = some (.int .i64 t2) := BD0.out.cell 6
  have d07_ : w0.cell? ⟨w.heap.size, 7, none⟩ = some (.int .i64 t3) := BD0.out.cell 7
  have d0l_ := BD0.out.lt
  have k00_ : w0.cell? ⟨w.heap.size + 1, 0, none⟩ = some (.int .i64 k1) := BK0.out.cell 0
  have k01_ : w0.cell? ⟨w.heap.size + 1, 1, none⟩ = some (.int .i64 k2) := BK0.out.cell 1
  have k02_ : w0.cell? ⟨w.heap.size + 1, 2, none⟩ = some (.int .i64 k3) := BK0.out.cell 2
  have k0l_ := BK0.out.lt
  have hgk : ∀ (op : BinOp) (a b : Operand) (w : World), (eqGuard op 33 a b (.agg #[.int .i64 d1, .int .i64 d2, .int .i64 d3]) (.agg #[.int .i64 k1, .int .i64 k2, .int .i64 k3])).run Try.prog w = .ok () w := fun op a b w => gdK op a b (d1, d2, d3) (k1, k2, k3) w
  by_cases h1 : ((d1, d2, d3) : K3) = (k1, k2, k3)
  · have hke : ∀ w, (Op.equalIn 10000 33 (.agg #[.int .i64 d1, .int .i64 d2, .int .i64 d3]) (.agg #[.int .i64 k1, .int .i64 k2, .int .i64 k3])).run Try.prog w = .ok true w := fun w => by have h := eqK (d1, d2, d3) (k1, k2, k3) w; rw [decide_eq_true h1] at h; exact h
    clear h1
    go_wp2
    go_ret
    exact ⟨rfl, U0.out.below0⟩
  · have hke : ∀ w, (Op.equalIn 10000 33 (.agg #[.int .i64 d1, .int .i64 d2, .int .i64 d3]) (.agg #[.int .i64 k1, .int .i64 k2, .int .i64 k3])).run Try.prog w = .ok false w := fun w => by have h := eqK (d1, d2, d3) (k1, k2, k3) w; rw [decide_eq_false h1] at h; exact h
    have H1 : Hid (((d1, d2, d3) : K3) ≠ (k1, k2, k3)) := Lib.hid h1
    clear h1
    by_cases h2 : kd = 2
    · have hb2 : (kd == 2) = true := by simp [h2]
      clear h2
      go_wp2
      go_ret
      exact ⟨rfl, U0.out.below0⟩
    · have hb2 : (kd == 2) = false := by simp [h2]
      have H2 := Lib.hid h2
      clear h2
      by_cases h3 : kd = 1
      · have hb3 : (kd != 1) = false := by simp [h3]
        have H3 : Hid (kd = 1 ∨ ((d1, d2, d3) : K3).1 ≠ ((k1, k2, k3) : K3).1) := Lib.hid (.inl h3)
        clear h3
        go_wp2_with fail
        refine (ran_to L len cap l HL.out hm HWF.out _ (HS.out.upd0 U0.out)).mono ?_
        rintro e_ wA ⟨ga, bka, bja, FA, rfl, hp, hu⟩
        have PA := Lib.hid hp
        have UA := Lib.hid hu
        have HBA : Hid (w.heap.size ≤ w0.heap.size) := Lib.hid U0.out.size
        have BDA := Lib.hid (BD0.out.upd hu (fun h => h))
        have BKA := Lib.hid (BK0.out.upd hu (fun h => h))
        have UwA := Lib.hid (U0.out.trans hu (fun _ h => h.elim))
        have NDA : Hid (¬ FA w.heap.size) := Lib.hid (hp.nlow BD0.out.lt)
        have NKA : Hid (¬ FA (w.heap.size + 1)) := Lib.hid (hp.nlow BK0.out.lt)
        clear d00_ d01_ d02_ d03_ d04_ d05_ d06_ d07_ d0l_ k00_ k01_ k02_ k0l_
        clear hp hu
        go_wp2_with fail
        refine (ran_to L len cap l HL.out hm HWF.out _ (HS.out.upd0 UwA.out)).mono ?_
        rintro e_ wB ⟨gb, bkb, bjb, FB, rfl, hp, hu⟩
        have PB := Lib.hid hp
        have PAB := Lib.hid (PA.out.upd0 hu)
        have BDB := Lib.hid (BDA.out.upd hu (fun h => h))
        have BKB := Lib.hid (BKA.out.upd hu (fun h => h))
        have UwB := Lib.hid (UwA.out.trans hu (fun _ h => h.elim))
        have NDB : Hid (¬ FB w.heap.size) := Lib.hid (hp.nlow BDA.out.lt)
        have NKB : Hid (¬ FB (w.heap.size + 1)) := Lib.hid (hp.nlow BKA.out.lt)
        clear hp hu
        have dB0_ : wB.cell? ⟨w.heap.size, 0, none⟩ = some (.int .i64 kd) := BDB.out.cell 0
        have dB1_ : wB.cell? ⟨w.heap.size, 1, none⟩ = some (.int .i64 id) := BDB.out.cell 1
        have dB2_ : wB.cell? ⟨w.heap.size, 2, none⟩ = some (.int .i64 d1) := BDB.out.cell 2
        have dB3_ : wB.cell? ⟨w.heap.size, 3, none⟩ = some (.int .i64 d2) := BDB.out.cell 3
        have dB4_ : wB.cell? ⟨w.heap.size, 4, none⟩ = some (.int .i64 d3) := BDB.out.cell 4
        have dB5_ : wB.cell? ⟨w.heap.size, 5, none⟩ = some (.int .i64 t1) := BDB.out.cell 5
        have dB6_ : wB.cell? ⟨w.heap.size, 6, none⟩ = some (.int .i64 t2) := BDB.out.cell 6
        have dB7_ : wB.cell? ⟨w.heap.size, 7, none⟩ = some (.int .i64 t3) := BDB.out.cell 7
        have dBl_ := BDB.out.lt
        have kB0_ : wB.cell? ⟨w.heap.size + 1, 0, none⟩ = some (.int .i64 k1) := BKB.out.cell 0
        have kB1_ : wB.cell? ⟨w.heap.size + 1, 1, none⟩ = some (.int .i64 k2) := BKB.out.cell 1
        have kB2_ : wB.cell? ⟨w.heap.size + 1, 2, none⟩ = some (.int .i64 k3) := BKB.out.cell 2
        have kBl_ := BKB.out.lt
        go_wp2_with fail
        refine (do_to (X := fun _ => False) (E2 := []) (J2 := []) (n := 0) (m := 0) kd id (d1, d2, d3) (t1, t2, t3) HQ.out HID.out (by decide) rfl (by decide) rfl (by decide) (fun e => absurd e H2.out) _ PAB.out (fun _ h => h.elim) (Kp.zero _ _) (Kp.zero _ _)).mono ?_
        rintro e_ wC ⟨A3, c3, B3, d3_, z, FC, rfl, hz, hcs, hsub, ha, hb, hu⟩
        have PC := Lib.hid hcs
        have HFC := Lib.hid hsub
        have BDC := Lib.hid (BDB.out.upd hu NDA.out)
        have BKC := Lib.hid (BKB.out.upd hu NKA.out)
        have UBC := Lib.hid hu
        have UwC := Lib.hid (upd_step UwB.out PAB.out HBA.out hu)
        have NKC : Hid (¬ FC (w.heap.size + 1)) := Lib.hid (fun h => (hsub _ h).elim NKA.out (fun h => absurd BKB.out.lt (Nat.not_lt.2 h)))
        clear hz hcs hsub ha hb hu dB0_ dB1_ dB2_ dB3_ dB4_ dB5_ dB6_ dB7_ dBl_ kB0_ kB1_ kB2_ kBl_
        have kC0_ : wC.cell? ⟨w.heap.size + 1, 0, none⟩ = some (.int .i64 k1) := BKC.out.cell 0
        have kC1_ : wC.cell? ⟨w.heap.size + 1, 1, none⟩ = some (.int .i64 k2) := BKC.out.cell 1
        have kC2_ : wC.cell? ⟨w.heap.size + 1, 2, none⟩ = some (.int .i64 k3) := BKC.out.cell 2
        have kCl_ := BKC.out.lt
        go_wp2_with fail
        refine (key_to (k1, k2, k3) _).mono ?_
        rintro e_ wD ⟨rfl, hu⟩
        have PD := Lib.hid (PC.out.upd0 hu)
        have BKD := Lib.hid (BKC.out.upd hu (fun h => h))
        have UBD := Lib.hid (UBC.out.trans hu (fun _ h => h.elim))
        have UwD := Lib.hid (UwC.out.trans hu (fun _ h => h.elim))
        have HCD := Lib.hid hu.size
        clear hu kC0_ kC1_ kC2_ kCl_
        go_wp2_with fail
        refine (ask_one (k := (k1, k2, k3)) (id := 1099511627776) HK.out (iok_of (by decide) (by decide)) (by decide) _ PD.out).mono ?_
        rintro e_ wE ⟨rfl, ⟨FE, hp, hf⟩, hu⟩
        have UBE : Hid (Upd FA wB wE) := Lib.hid (UBD.out.trans hu (fun x hx => (HFC.out x hx).imp _root_.id _root_.id))
        have UwE := Lib.hid (upd_step UwD.out PD.out HBA.out hu)
        have BKE := Lib.hid (BKD.out.upd hu NKC.out)
        have PBE := Lib.hid (PB.out.later UBE.out (fun x hx => .inl (PA.out.fr x hx).2))
        clear hp hf hu PC PD PAB PB UBC UBD
        obtain ⟨qa, hqa⟩ : ∃ z, zA (st (l.take 100)).1 (k1, k2, k3) = z := ⟨_, rfl⟩
        obtain ⟨ua, hua⟩ : ∃ z, zT (st (l.take 100)).1 (k1, k2, k3) = z := ⟨_, rfl⟩
        have HQA := Lib.hid hqa
        have HUA := Lib.hid hua
        have HLAW := Lib.hid (apart_law (E := (st (l.take 100)).1) (kd := kd) (id := id) (q := (d1, d2, d3)) (k := (k1, k2, k3)) (t := (t1, t2, t3)) H1.out H2.out H3.out)
        simp only [HLAW.out.1, HLAW.out.2, hqa, hua]
        clear hqa hua
        obtain ⟨u1, u2, u3⟩ := ua
        have kE0_ : wE.cell? ⟨w.heap.size + 1, 0, none⟩ = some (.int .i64 k1) := BKE.out.cell 0
        have kE1_ : wE.cell? ⟨w.heap.size + 1, 1, none⟩ = some (.int .i64 k2) := BKE.out.cell 1
        have kE2_ : wE.cell? ⟨w.heap.size + 1, 2, none⟩ = some (.int .i64 k3) := BKE.out.cell 2
        have kEl_ := BKE.out.lt
        go_wp2_with fail
        refine Calls.gen (fun W => Upd (fun _ => False) wE W ∧ Blk W wE.heap.size 44 #[.int .i64 u1, .int .i64 u2, .int .i64 u3]) ⟨(by repeat (first | exact Upd.refl _ _ | refine Upd.alloc ?_ _ | refine Upd.drew ?_ | refine Upd.drewN ?_ _ | refine Upd.put ?_ _ _)), Blk.new wE _ _⟩ (fun wF hW => ?_)
        obtain ⟨hu, hb⟩ := hW
        have PBF := Lib.hid (PBE.out.upd0 hu)
        have UwF := Lib.hid (UwE.out.trans hu (fun _ h => h.elim))
        have BTF := Lib.hid hb
        have BKF := Lib.hid (BKE.out.upd hu (fun h => h))
        have NTF : Hid (¬ FB wE.heap.size) := Lib.hid (PBE.out.nb (Nat.le_refl _))
        clear hu hb kE0_ kE1_ kE2_ kEl_ PBE
        refine (key_to (k1, k2, k3) _).mono ?_
        rintro e_ wG ⟨rfl, hu⟩
        have PBG := Lib.hid (PBF.out.upd0 hu)
        have UwG := Lib.hid (UwF.out.trans hu (fun _ h => h.elim))
        have BTG := Lib.hid (BTF.out.upd hu (fun h => h))
        clear hu
        go_wp2_with fail
        refine (ask_one (k := (k1, k2, k3)) (id := 1099511627776) HK.out (iok_of (by decide) (by decide)) (by decide) _ PBG.out).mono ?_
        rintro e_ wH ⟨rfl, ⟨FE2, hp, hf⟩, hu⟩
        have UwH := Lib.hid (upd_step UwG.out PBG.out (Nat.le_trans HBA.out UA.out.size) hu)
        have BTH := Lib.hid (BTG.out.upd hu NTF.out)
        clear hp hf hu
        simp only [HQA.out, HUA.out]
        have tH0_ : wH.cell? ⟨wE.heap.size, 0, none⟩ = some (.int .i64 u1) := BTH.out.cell 0
        have tH1_ : wH.cell? ⟨wE.heap.size, 1, none⟩ = some (.int .i64 u2) := BTH.out.cell 1
        have tH2_ : wH.cell? ⟨wE.heap.size, 2, none⟩ = some (.int .i64 u3) := BTH.out.cell 2
        have tHl_ := BTH.out.lt
        have heq : ∀ w, (Op.equalIn 10000 44 (.agg #[.int .i64 u1, .int .i64 u2, .int .i64 u3]) (.agg #[.int .i64 u1, .int .i64 u2, .int .i64 u3])).run Try.prog w = .ok true w := fun w => by have h := eqT (u1, u2, u3) (u1, u2, u3) w; rw [decide_eq_true rfl] at h; exact h
        have hgd : ∀ (op : BinOp) (a b : Operand) (w : World), (eqGuard op 44 a b (.agg #[.int .i64 u1, .int .i64 u2, .int .i64 u3]) (.agg #[.int .i64 u1, .int .i64 u2, .int .i64 u3])).run Try.prog w = .ok () w := fun op a b w => gdT op a b (u1, u2, u3) (u1, u2, u3) w
        go_wp2
        go_ret
        refine ⟨rfl, Upd.below0 ?_⟩
        exact UwH.out.trans (show Upd (fun _ => False) wH _ from (by repeat (first | exact Upd.refl _ _ | refine Upd.alloc ?_ _ | refine Upd.drew ?_ | refine Upd.drewN ?_ _ | refine Upd.put ?_ _ _))) (fun _ h => h.elim)
      · have hb3 : (kd != 1) = true := by simp [h3]
        by_cases h4 : d1 = k1
        · have hb4 : (d1 == k1) = true := by simp [h4]
          clear h4
          go_wp2
          go_ret
          exact ⟨rfl, U0.out.below0⟩
        · have hb4 : (d1 == k1) = false := by simp [h4]
          have H3 : Hid (kd = 1 ∨ ((d1, d2, d3) : K3).1 ≠ ((k1, k2, k3) : K3).1) := Lib.hid (.inr h4)
          clear h3 h4
          go_wp2_with fail
          refine (ran_to L len cap l HL.out hm HWF.out _ (HS.out.upd0 U0.out)).mono ?_
          rintro e_ wA ⟨ga, bka, bja, FA, rfl, hp, hu⟩
          have PA := Lib.hid hp
          have UA := Lib.hid hu
          have HBA : Hid (w.heap.size ≤ w0.heap.size) := Lib.hid U0.out.size
          have BDA := Lib.hid (BD0.out.upd hu (fun h => h))
          have BKA := Lib.hid (BK0.out.upd hu (fun h => h))
          have UwA := Lib.hid (U0.out.trans hu (fun _ h => h.elim))
          have NDA : Hid (¬ FA w.heap.size) := Lib.hid (hp.nlow BD0.out.lt)
          have NKA : Hid (¬ FA (w.heap.size + 1)) := Lib.hid (hp.nlow BK0.out.lt)
          clear d00_ d01_ d02_ d03_ d04_ d05_ d06_ d07_ d0l_ k00_ k01_ k02_ k0l_
          clear hp hu
          go_wp2_with fail
          refine (ran_to L len cap l HL.out hm HWF.out _ (HS.out.upd0 UwA.out)).mono ?_
          rintro e_ wB ⟨gb, bkb, bjb, FB, rfl, hp, hu⟩
          have PB := Lib.hid hp
          have PAB := Lib.hid (PA.out.upd0 hu)
          have BDB := Lib.hid (BDA.out.upd hu (fun h => h))
          have BKB := Lib.hid (BKA.out.upd hu (fun h => h))
          have UwB := Lib.hid (UwA.out.trans hu (fun _ h => h.elim))
          have NDB : Hid (¬ FB w.heap.size) := Lib.hid (hp.nlow BDA.out.lt)
          have NKB : Hid (¬ FB (w.heap.size + 1)) := Lib.hid (hp.nlow BKA.out.lt)
          clear hp hu
          have dB0_ : wB.cell? ⟨w.heap.size, 0, none⟩ = some (.int .i64 kd) := BDB.out.cell 0
          have dB1_ : wB.cell? ⟨w.heap.size, 1, none⟩ = some (.int .i64 id) := BDB.out.cell 1
          have dB2_ : wB.cell? ⟨w.heap.size, 2, none⟩ = some (.int .i64 d1) := BDB.out.cell 2
          have dB3_ : wB.cell? ⟨w.heap.size, 3, none⟩ = some (.int .i64 d2) := BDB.out.cell 3
          have dB4_ : wB.cell? ⟨w.heap.size, 4, none⟩ = some (.int .i64 d3) := BDB.out.cell 4
          have dB5_ : wB.cell? ⟨w.heap.size, 5, none⟩ = some (.int .i64 t1) := BDB.out.cell 5
          have dB6_ : wB.cell? ⟨w.heap.size, 6, none⟩ = some (.int .i64 t2) := BDB.out.cell 6
          have dB7_ : wB.cell? ⟨w.heap.size, 7, none⟩ = some (.int .i64 t3) := BDB.out.cell 7
          have dBl_ := BDB.out.lt
          have kB0_ : wB.cell? ⟨w.heap.size + 1, 0, none⟩ = some (.int .i64 k1) := BKB.out.cell 0
          have kB1_ : wB.cell? ⟨w.heap.size + 1, 1, none⟩ = some (.int .i64 k2) := BKB.out.cell 1
          have kB2_ : wB.cell? ⟨w.heap.size + 1, 2, none⟩ = some (.int .i64 k3) := BKB.out.cell 2
          have kBl_ := BKB.out.lt
          go_wp2_with fail
          refine (do_to (X := fun _ => False) (E2 := []) (J2 := []) (n := 0) (m := 0) kd id (d1, d2, d3) (t1, t2, t3) HQ.out HID.out (by decide) rfl (by decide) rfl (by decide) (fun e => absurd e H2.out) _ PAB.out (fun _ h => h.elim) (Kp.zero _ _) (Kp.zero _ _)).mono ?_
          rintro e_ wC ⟨A3, c3, B3, d3_, z, FC, rfl, hz, hcs, hsub, ha, hb, hu⟩
          have PC := Lib.hid hcs
          have HFC := Lib.hid hsub
          have BDC := Lib.hid (BDB.out.upd hu NDA.out)
          have BKC := Lib.hid (BKB.out.upd hu NKA.out)
          have UBC := Lib.hid hu
          have UwC := Lib.hid (upd_step UwB.out PAB.out HBA.out hu)
          have NKC : Hid (¬ FC (w.heap.size + 1)) := Lib.hid (fun h => (hsub _ h).elim NKA.out (fun h => absurd BKB.out.lt (Nat.not_lt.2 h)))
          clear hz hcs hsub ha hb hu dB0_ dB1_ dB2_ dB3_ dB4_ dB5_ dB6_ dB7_ dBl_ kB0_ kB1_ kB2_ kBl_
          have kC0_ : wC.cell? ⟨w.heap.size + 1, 0, none⟩ = some (.int .i64 k1) := BKC.out.cell 0
          have kC1_ : wC.cell? ⟨w.heap.size + 1, 1, none⟩ = some (.int .i64 k2) := BKC.out.cell 1
          have kC2_ : wC.cell? ⟨w.heap.size + 1, 2, none⟩ = some (.int .i64 k3) := BKC.out.cell 2
          have kCl_ := BKC.out.lt
          go_wp2_with fail
          refine (key_to (k1, k2, k3) _).mono ?_
          rintro e_ wD ⟨rfl, hu⟩
          have PD := Lib.hid (PC.out.upd0 hu)
          have BKD := Lib.hid (BKC.out.upd hu (fun h => h))
          have UBD := Lib.hid (UBC.out.trans hu (fun _ h => h.elim))
          have UwD := Lib.hid (UwC.out.trans hu (fun _ h => h.elim))
          have HCD := Lib.hid hu.size
          clear hu kC0_ kC1_ kC2_ kCl_
          go_wp2_with fail
          refine (ask_one (k := (k1, k2, k3)) (id := 1099511627776) HK.out (iok_of (by decide) (by decide)) (by decide) _ PD.out).mono ?_
          rintro e_ wE ⟨rfl, ⟨FE, hp, hf⟩, hu⟩
          have UBE : Hid (Upd FA wB wE) := Lib.hid (UBD.out.trans hu (fun x hx => (HFC.out x hx).imp _root_.id _root_.id))
          have UwE := Lib.hid (upd_step UwD.out PD.out HBA.out hu)
          have BKE := Lib.hid (BKD.out.upd hu NKC.out)
          have PBE := Lib.hid (PB.out.later UBE.out (fun x hx => .inl (PA.out.fr x hx).2))
          clear hp hf hu PC PD PAB PB UBC UBD
          obtain ⟨qa, hqa⟩ : ∃ z, zA (st (l.take 100)).1 (k1, k2, k3) = z := ⟨_, rfl⟩
          obtain ⟨ua, hua⟩ : ∃ z, zT (st (l.take 100)).1 (k1, k2, k3) = z := ⟨_, rfl⟩
          have HQA := Lib.hid hqa
          have HUA := Lib.hid hua
          have HLAW := Lib.hid (apart_law (E := (st (l.take 100)).1) (kd := kd) (id := id) (q := (d1, d2, d3)) (k := (k1, k2, k3)) (t := (t1, t2, t3)) H1.out H2.out H3.out)
          simp only [HLAW.out.1, HLAW.out.2, hqa, hua]
          clear hqa hua
          obtain ⟨u1, u2, u3⟩ := ua
          have kE0_ : wE.cell? ⟨w.heap.size + 1, 0, none⟩ = some (.int .i64 k1) := BKE.out.cell 0
          have kE1_ : wE.cell? ⟨w.heap.size + 1, 1, none⟩ = some (.int .i64 k2) := BKE.out.cell 1
          have kE2_ : wE.cell? ⟨w.heap.size + 1, 2, none⟩ = some (.int .i64 k3) := BKE.out.cell 2
          have kEl_ := BKE.out.lt
          go_wp2_with fail
          refine Calls.gen (fun W => Upd (fun _ => False) wE W ∧ Blk W wE.heap.size 44 #[.int .i64 u1, .int .i64 u2, .int .i64 u3]) ⟨(by repeat (first | exact Upd.refl _ _ | refine Upd.alloc ?_ _ | refine Upd.drew ?_ | refine Upd.drewN ?_ _ | refine Upd.put ?_ _ _)), Blk.new wE _ _⟩ (fun wF hW => ?_)
          obtain ⟨hu, hb⟩ := hW
          have PBF := Lib.hid (PBE.out.upd0 hu)
          have UwF := Lib.hid (UwE.out.trans hu (fun _ h => h.elim))
          have BTF := Lib.hid hb
          have BKF := Lib.hid (BKE.out.upd hu (fun h => h))
          have NTF : Hid (¬ FB wE.heap.size) := Lib.hid (PBE.out.nb (Nat.le_refl _))
          clear hu hb kE0_ kE1_ kE2_ kEl_ PBE
          refine (key_to (k1, k2, k3) _).mono ?_
          rintro e_ wG ⟨rfl, hu⟩
          have PBG := Lib.hid (PBF.out.upd0 hu)
          have UwG := Lib.hid (UwF.out.trans hu (fun _ h => h.elim))
          have BTG := Lib.hid (BTF.out.upd hu (fun h => h))
          clear hu
          go_wp2_with fail
          refine (ask_one (k := (k1, k2, k3)) (id := 1099511627776) HK.out (iok_of (by decide) (by decide)) (by decide) _ PBG.out).mono ?_
          rintro e_ wH ⟨rfl, ⟨FE2, hp, hf⟩, hu⟩
          have UwH := Lib.hid (upd_step UwG.out PBG.out (Nat.le_trans HBA.out UA.out.size) hu)
          have BTH := Lib.hid (BTG.out.upd hu NTF.out)
          clear hp hf hu
          simp only [HQA.out, HUA.out]
          have tH0_ : wH.cell? ⟨wE.heap.size, 0, none⟩ = some (.int .i64 u1) := BTH.out.cell 0
          have tH1_ : wH.cell? ⟨wE.heap.size, 1, none⟩ = some (.int .i64 u2) := BTH.out.cell 1
          have tH2_ : wH.cell? ⟨wE.heap.size, 2, none⟩ = some (.int .i64 u3) := BTH.out.cell 2
          have tHl_ := BTH.out.lt
          have heq : ∀ w, (Op.equalIn 10000 44 (.agg #[.int .i64 u1, .int .i64 u2, .int .i64 u3]) (.agg #[.int .i64 u1, .int .i64 u2, .int .i64 u3])).run Try.prog w = .ok true w := fun w => by have h := eqT (u1, u2, u3) (u1, u2, u3) w; rw [decide_eq_true rfl] at h; exact h
          have hgd : ∀ (op : BinOp) (a b : Operand) (w : World), (eqGuard op 44 a b (.agg #[.int .i64 u1, .int .i64 u2, .int .i64 u3]) (.agg #[.int .i64 u1, .int .i64 u2, .int .i64 u3])).run Try.prog w = .ok () w := fun op a b w => gdT op a b (u1, u2, u3) (u1, u2, u3) w
          go_wp2
          go_ret
          refine ⟨rfl, Upd.below0 ?_⟩
          exact UwH.out.trans (show Upd (fun _ => False) wH _ from (by repeat (first | exact Upd.refl _ _ | refine Upd.alloc ?_ _ | refine Upd.drew ?_ | refine Upd.drewN ?_ _ | refine Upd.put ?_ _ _))) (fun _ h => h.elim)
theorem capart_walk {w : World} (A9 : Option Addr) (len9 cap9 : Nat) (L9 : List (List Value)) (hL9 : L9.length = len9) (hlc9 : len9 ≤ cap9) (hm9 : cap9 ≤ maxLen) (hn9 : A9 = none → len9 = 0 ∧ cap9 = 0) (hok9 : ∀ row ∈ L9, Oks d8s row) (hr9 : Rows w A9 8 L9)
    (c1 : Array Value) (w1 : Oks d8s c1.toList) (c2 : Array Value) (w2 : Oks [.int .i64, .int .i64, .int .i64] c2.toList) :
    Calls Try.prog 5 #[.slice A9 len9 cap9, .agg c1, .agg c2] w fun e w' => e = .returned (.bool true) ∧ Below w.heap.size w w' := by
  obtain ⟨l, hl, hwf, hs⟩ := sl_rows (enc := d8) d8_len (by decide) d8_dec hL9 hlc9 hm9 hn9 hok9 hr9
  unfold maxLen at hm9
  obtain ⟨⟨kd, id, q, t⟩, rfl, h1, h2⟩ := agg_dec (enc := d8) d8_dec w1
  obtain ⟨k, rfl, hk⟩ := arrK w2
  exact capart_any A9 len9 cap9 l hl (by omega) hwf kd id q t k h2 h1 hk w hs
end Go.Proofs.Ytninaaolbgchpaa
