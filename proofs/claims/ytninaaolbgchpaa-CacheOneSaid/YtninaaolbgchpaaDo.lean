/- A deed, of both. -/
import Derived.Test.YtninaaolbgchpaaDx
namespace Go.Proofs.Ytninaaolbgchpaa
open Go.RowKit
set_option linter.unusedVariables false
set_option linter.unusedSimpArgs false

abbrev dv (kd id : Int) (k t : K3) : Array Value := #[.int .i64 kd, .int .i64 id, .int .i64 k.1, .int .i64 k.2.1, .int .i64 k.2.2, .int .i64 t.1, .int .i64 t.2.1, .int .i64 t.2.2]
section
variable {base g bk bj N n m c d : Nat} {F X : Nat → Prop} {E E2 : List En} {J J2 : List J2} {A B : Option Addr}
set_option maxHeartbeats 8000000 in
set_option maxRecDepth 100000 in
theorem do_to (kd id : Int) (k t : K3) (hk : kok k) (hid : iok id) (hN : N < 1000) (hl : E2.length = n) (hn : n < 1000) (hm : J2.length = m) (hm1 : m < 1000) (hsame : kd = 2 → setL J id = setL J2 id) (w : World) (hp : CS w base g bk bj F E J N) (hX : ∀ x, X x → x < w.heap.size) (hA : Kp w (fun x => F x ∨ X x) A n c (fl e8 E2)) (hB : Kp w (fun x => F x ∨ X x) B m d (prs J2)) :
    Calls Try.prog 11 #[.pointer (some ⟨g, 0, none⟩), .agg #[.slice A n c, .slice B m d], .agg (dv kd id k t)] w fun e w' => ∃ A' c' B' d' b F', e = .returned (.tuple #[.agg #[.slice A' (dE E2 kd id k t).length c', .slice B' (dJ E2 J2 kd id k).length d'], .bool b]) ∧ (E = E2 → J = J2 → b = true) ∧
      CS w' base g bk bj F' (dE E kd id k t) (dJ E J kd id k) (N + 1) ∧ (∀ x, F' x → F x ∨ w.heap.size ≤ x) ∧ Kp w' (fun x => F' x ∨ X x) A' (dE E2 kd id k t).length c' (fl e8 (dE E2 kd id k t)) ∧ Kp w' (fun x => F' x ∨ X x) B' (dJ E2 J2 kd id k).length d' (prs (dJ E2 J2 kd id k)) ∧ Upd F w w' := by
  obtain ⟨k1, k2, k3⟩ := k
  obtain ⟨t1, t2, t3⟩ := t
  have HP := Lib.hid hp
  have HA := Lib.hid hA
  have HB := Lib.hid hB
  have HL := Lib.hid hl
  have HM := Lib.hid hm
  have HK := Lib.hid hk
  have HID := Lib.hid hid
  have HSM := Lib.hid hsame
  have HXX := Lib.hid hX
  clear hX hp hA hB hl hm hk hid hsame
  go_enter Try.func11, Try.ntmps11
  go_upto_region 1 with fail
  refine Code.gen (fun W => Upd (fun _ => False) w W ∧ Blk W w.heap.size 29 #[.slice A n c, .slice B m d] ∧ Blk W (w.heap.size + 1) 37 #[.int .i64 kd, .int .i64 id, .int .i64 k1, .int .i64 k2, .int .i64 k3, .int .i64 t1, .int .i64 t2, .int .i64 t3] ∧ Blk W (w.heap.size + 1 + 1) 29 #[.slice none 0 0, .slice none 0 0]) ⟨(by repeat (first | exact Upd.refl _ _ | refine Upd.alloc ?_ _ | refine Upd.drew ?_ | refine Upd.drewN ?_ _ | refine Upd.put ?_ _ _)), ((Blk.new w _ _).alloc _).alloc _, (Blk.new1 w _ _ _).alloc _, Blk.new2 w _ _ _ _⟩ (fun w1 hW => ?_)
  obtain ⟨hu1, hb1, hb2, hb3⟩ := hW
  have HU1 := Lib.hid hu1
  have HX1 := Lib.hid hb1
  have HD1 := Lib.hid hb2
  have HR1 := Lib.hid hb3
  have HP1 := Lib.hid (HP.out.upd0 hu1)
  have HB1 : Hid ((w.heap.size + 1 + 1) < w1.heap.size) := Lib.hid hb3.lt
  have HNX : Hid (¬ F w.heap.size) := Lib.hid (HP.out.nb (Nat.le_refl _))
  have HND : Hid (¬ F (w.heap.size + 1)) := Lib.hid (HP.out.nb (Nat.le_succ _))
  have HNR : Hid (¬ F (w.heap.size + 1 + 1)) := Lib.hid (HP.out.nb (by omega))
  have HA1 := Lib.hid (HA.out.keep0 hu1)
  have HB2 := Lib.hid (HB.out.keep0 hu1)
  have d0_ : w1.cell? ⟨(w.heap.size + 1), 0, none⟩ = some (.int .i64 kd) := hb2.cell 0
  have d1_ : w1.cell? ⟨(w.heap.size + 1), 1, none⟩ = some (.int .i64 id) := hb2.cell 1
  have d2_ : w1.cell? ⟨(w.heap.size + 1), 2, none⟩ = some (.int .i64 k1) := hb2.cell 2
  have d3_ : w1.cell? ⟨(w.heap.size + 1), 3, none⟩ = some (.int .i64 k2) := hb2.cell 3
  have d4_ : w1.cell? ⟨(w.heap.size + 1), 4, none⟩ = some (.int .i64 k3) := hb2.cell 4
  have dl := hb2.lt
  clear hu1 hb1 hb2 hb3
  by_cases h1 : kd = 1
  · have hd1 : (kd == 1) = true := by simp [h1]
    have HE1 : Hid (dE E kd id (k1, k2, k3) (t1, t2, t3) = zE E (k1, k2, k3) id ∧ dJ E J kd id (k1, k2, k3) = zJ E J (k1, k2, k3) id ∧ dE E2 kd id (k1, k2, k3) (t1, t2, t3) = zE E2 (k1, k2, k3) id ∧ dJ E2 J2 kd id (k1, k2, k3) = zJ E2 J2 (k1, k2, k3) id) := Lib.hid (by unfold dE dJ; simp only [if_pos h1]; exact ⟨trivial, trivial, trivial, trivial⟩)
    clear h1
    go_upto_region 3 with fail
    go_cut [8, 9] from 23 to 32 (fun av tv wx => ∃ tb F', av = .int .i64 (zA E (k1, k2, k3)) ∧ tv = .pointer (some ⟨tb, 0, none⟩) ∧ Hid (Aft w1 wx base g bk bj tb F F' (zE E (k1, k2, k3) id) (zJ E J (k1, k2, k3) id) (N + 1) (kcs (zT E (k1, k2, k3)))))
    case first =>
      go_region_held3 (fun w' => w'.cell? ⟨(w.heap.size + 1), 1, none⟩ = some (.int .i64 id) ∧ w'.cell? ⟨(w.heap.size + 1), 2, none⟩ = some (.int .i64 k1) ∧ w'.cell? ⟨(w.heap.size + 1), 3, none⟩ = some (.int .i64 k2) ∧ w'.cell? ⟨(w.heap.size + 1), 4, none⟩ = some (.int .i64 k3)) (go_keep) (first | (go_at_call 16; refine (key_to (k1, k2, k3) _).mono ?_; rintro e_ w5 ⟨rfl, hu⟩; have HU5 : Hid (Upd (fun _ => False) w1 w5) := Lib.hid (Upd.trans (by repeat (first | exact Upd.refl _ _ | refine Upd.alloc ?_ _ | refine Upd.drew ?_ | refine Upd.drewN ?_ _)) hu (fun _ h => h.elim)); (first | (have HBX : Hid (Blk w5 w1.heap.size 44 #[.int .i64 0, .int .i64 0, .int .i64 0]) := Lib.hid ((Blk.new w1 _ _).drew.upd hu (fun h => h))) | skip); have hd5 := HD1.out.upd HU5.out (fun h => h); have dl5 := hd5.lt; have a1_ : w5.cell? ⟨(w.heap.size + 1), 1, none⟩ = some (.int .i64 id) := hd5.cell 1; have a2_ : w5.cell? ⟨(w.heap.size + 1), 2, none⟩ = some (.int .i64 k1) := hd5.cell 2; have a3_ : w5.cell? ⟨(w.heap.size + 1), 3, none⟩ = some (.int .i64 k2) := hd5.cell 3; have a4_ : w5.cell? ⟨(w.heap.size + 1), 4, none⟩ = some (.int .i64 k3) := hd5.cell 4; clear hu hd5) | (go_at_call 15; first | (have HQ5 := Lib.hid (HP1.out.addF HU5.out (tb := w1.heap.size) (Nat.le_refl _) HBX.out.lt); refine (ask_all (X := At w1.heap.size) HK.out HID.out hN w5 (HP1.out.upd0 HU5.out) HQ5.out).mono ?_; rintro e_ w6 ⟨rfl, ⟨F6, hp6, hq6, hf6⟩, hu6⟩; have HP6 := Lib.hid hp6; have HQ6 := Lib.hid hq6; have HF6 := Lib.hid hf6; have HV6 := Lib.hid hu6; have HBX6 := Lib.hid (HBX.out.upd HV6.out (HP1.out.nb (Nat.le_refl _))); have bl6 := HBX6.out.lt; have bz0 : w6.cell? ⟨w1.heap.size, 0, none⟩ = some (.int .i64 0) := HBX6.out.cell 0; have bz1 : w6.cell? ⟨w1.heap.size, 1, none⟩ = some (.int .i64 0) := HBX6.out.cell 1; have bz2 : w6.cell? ⟨w1.heap.size, 2, none⟩ = some (.int .i64 0) := HBX6.out.cell 2; have bf6 : ∀ i, w6.frozen? ⟨w1.heap.size, i, none⟩ = false := fun i => HBX6.out.frz i; have hnd : ¬ w1.heap.size = (w.heap.size + 1) := (by have := HD1.out.lt; omega); have hnd' : ¬ (w.heap.size + 1) = w1.heap.size := (by have := HD1.out.lt; omega); have hd6 := HD1.out.upd (((HU5.out.mono (fun _ h => h.elim)).trans HV6.out (fun _ h => .inl h) : Upd F w1 w6)) HND.out; have dl6 := hd6.lt; have b1_ : w6.cell? ⟨(w.heap.size + 1), 1, none⟩ = some (.int .i64 id) := hd6.cell 1; have b2_ : w6.cell? ⟨(w.heap.size + 1), 2, none⟩ = some (.int .i64 k1) := hd6.cell 2; have b3_ : w6.cell? ⟨(w.heap.size + 1), 3, none⟩ = some (.int .i64 k2) := hd6.cell 3; have b4_ : w6.cell? ⟨(w.heap.size + 1), 4, none⟩ = some (.int .i64 k3) := hd6.cell 4; clear hd6 hp6 hf6 hu6; clear hq6) | (have HQ5 := Lib.hid (HP1.out.addF (HU5.out.alloc (.cells #[.int .i64 0, .int .i64 0, .int .i64 0] 44)) (tb := w5.heap.size) HU5.out.size (by simp)); refine (ask_all (X := At w5.heap.size) HK.out HID.out hN (w5.alloc (.cells #[.int .i64 0, .int .i64 0, .int .i64 0] 44)) (HP1.out.upd0 (HU5.out.alloc _)) HQ5.out).mono ?_; rintro e_ w6 ⟨rfl, ⟨F6, hp6, hq6, hf6⟩, hu6⟩; have HP6 := Lib.hid hp6; have HQ6 := Lib.hid hq6; have HF6 := Lib.hid hf6; have HV6 := Lib.hid hu6; have HBX6 := Lib.hid ((Blk.new w5 #[.int .i64 0, .int .i64 0, .int .i64 0] 44).upd HV6.out (HP1.out.nb HU5.out.size)); have bl6 := HBX6.out.lt; have bz0 : w6.cell? ⟨w5.heap.size, 0, none⟩ = some (.int .i64 0) := HBX6.out.cell 0; have bz1 : w6.cell? ⟨w5.heap.size, 1, none⟩ = some (.int .i64 0) := HBX6.out.cell 1; have bz2 : w6.cell? ⟨w5.heap.size, 2, none⟩ = some (.int .i64 0) := HBX6.out.cell 2; have bf6 : ∀ i, w6.frozen? ⟨w5.heap.size, i, none⟩ = false := fun i => HBX6.out.frz i; have hnd : ¬ w5.heap.size = (w.heap.size + 1) := (by have := HD1.out.lt; have := HU5.out.size; omega); have hnd' : ¬ (w.heap.size + 1) = w5.heap.size := (by have := HD1.out.lt; have := HU5.out.size; omega); have hd6 := HD1.out.upd ((((HU5.out.alloc (.cells #[.int .i64 0, .int .i64 0, .int .i64 0] 44)).mono (fun _ h => h.elim)).trans HV6.out (fun _ h => .inl h) : Upd F w1 w6)) HND.out; have dl6 := hd6.lt; have b1_ : w6.cell? ⟨(w.heap.size + 1), 1, none⟩ = some (.int .i64 id) := hd6.cell 1; have b2_ : w6.cell? ⟨(w.heap.size + 1), 2, none⟩ = some (.int .i64 k1) := hd6.cell 2; have b3_ : w6.cell? ⟨(w.heap.size + 1), 3, none⟩ = some (.int .i64 k2) := hd6.cell 3; have b4_ : w6.cell? ⟨(w.heap.size + 1), 4, none⟩ = some (.int .i64 k3) := hd6.cell 4; clear hd6 hp6 hf6 hu6; clear hq6) | (refine (ask_one HK.out HID.out hN w5 (HP1.out.upd0 HU5.out)).mono ?_; rintro e_ w6 ⟨rfl, ⟨F6, hp6, hf6⟩, hu6⟩; have HP6 := Lib.hid hp6; have HF6 := Lib.hid hf6; have HV6 := Lib.hid hu6; have hd6 := HD1.out.upd (((HU5.out.mono (fun _ h => h.elim)).trans HV6.out (fun _ h => .inl h) : Upd F w1 w6)) HND.out; have dl6 := hd6.lt; have b1_ : w6.cell? ⟨(w.heap.size + 1), 1, none⟩ = some (.int .i64 id) := hd6.cell 1; have b2_ : w6.cell? ⟨(w.heap.size + 1), 2, none⟩ = some (.int .i64 k1) := hd6.cell 2; have b3_ : w6.cell? ⟨(w.heap.size + 1), 3, none⟩ = some (.int .i64 k2) := hd6.cell 3; have b4_ : w6.cell? ⟨(w.heap.size + 1), 4, none⟩ = some (.int .i64 k3) := hd6.cell 4; clear hd6 hp6 hf6 hu6)))
      all_goals (go_wp2_with fail; go_meet)
      all_goals first
        | (case rel => exact ⟨_, _, rfl, rfl, Lib.hid (aft12 HP6.out HQ6.out HF6.out HU5.out (Nat.le_refl _) HBX.out.lt (HP1.out.nb (Nat.le_refl _)) HV6.out HBX6.out)⟩)
        | (case rel => exact ⟨_, _, rfl, rfl, Lib.hid (aft12 HP6.out HQ6.out HF6.out (HU5.out.alloc _) HU5.out.size (by simp) (HP1.out.nb HU5.out.size) HV6.out HBX6.out)⟩)
        | (case rel => exact ⟨_, _, rfl, rfl, Lib.hid (aft3 HP6.out HF6.out HU5.out HV6.out)⟩)
    case rest =>
      obtain ⟨tb, F1, rfl, rfl, HAF⟩ := hcut
      clear d0_ d1_ d2_ d3_ d4_ dl hd1
      have HXc := Lib.hid (HX1.out.upd HAF.out.upd HNX.out)
      have HDc := Lib.hid (HD1.out.upd HAF.out.upd HND.out)
      have HRc := Lib.hid (HR1.out.upd HAF.out.upd HNR.out)
      have HFS : Hid (∀ x, (F1 x ∨ At (w.heap.size + 1 + 1) x) → F x ∨ w.heap.size ≤ x) := Lib.hid (fun x hx => hx.elim (fun h => (HAF.out.sub x h).imp _root_.id (fun h => Nat.le_trans HU1.out.size h)) (fun e => .inr (by rw [show x = (w.heap.size + 1 + 1) from e]; omega)))
      have HUc : Hid (Upd F w wc) := Lib.hid ((HU1.out.mono (fun _ h => h.elim)).trans HAF.out.upd (fun _ h => .inl h))
      have HFL : Hid (∀ x, ((F1 x ∨ X x) ∨ At (w.heap.size + 1 + 1) x) → x < wc.heap.size) := Lib.hid (fun x hx => hx.elim (fun h => h.elim (fun h => (HAF.out.cs_.fr x h).2) (fun h => Nat.lt_of_lt_of_le (HXX.out x h) HUc.out.size)) (fun e => by rw [show x = (w.heap.size + 1 + 1) from e]; exact HRc.out.lt))
      have HFS2 : Hid (∀ x, ((F1 x ∨ X x) ∨ At (w.heap.size + 1 + 1) x) → (F x ∨ X x) ∨ w.heap.size ≤ x) := Lib.hid (fun x hx => hx.elim (fun h => h.elim (fun h => (HFS.out x (.inl h)).imp .inl _root_.id) (fun h => .inl (.inr h))) (fun h => (HFS.out x (.inr h)).imp .inl _root_.id))
      have HAc : Hid (Kp wc (fun x => (F1 x ∨ X x) ∨ At (w.heap.size + 1 + 1) x) A n c (fl e8 E2)) := Lib.hid (HA.out.step HUc.out (fun _ h => .inl (.inl h)) HFS2.out)
      have HBc : Hid (Kp wc (fun x => (F1 x ∨ X x) ∨ At (w.heap.size + 1 + 1) x) B m d (prs J2)) := Lib.hid (HB.out.step HUc.out (fun _ h => .inl (.inl h)) HFS2.out)
      clear HX1 HD1 HR1 HA1 HB2 HP1
      have x0_ : wc.cell? ⟨w.heap.size, 0, none⟩ = some (.slice A n c) := HXc.out.cell 0
      have x1_ : wc.cell? ⟨w.heap.size, 1, none⟩ = some (.slice B m d) := HXc.out.cell 1
      have xl := HXc.out.lt
      have c1_ : wc.cell? ⟨(w.heap.size + 1), 1, none⟩ = some (.int .i64 id) := HDc.out.cell 1
      have c2_ : wc.cell? ⟨(w.heap.size + 1), 2, none⟩ = some (.int .i64 k1) := HDc.out.cell 2
      have c3_ : wc.cell? ⟨(w.heap.size + 1), 3, none⟩ = some (.int .i64 k2) := HDc.out.cell 3
      have c4_ : wc.cell? ⟨(w.heap.size + 1), 4, none⟩ = some (.int .i64 k3) := HDc.out.cell 4
      have dl := HDc.out.lt
      go_wp2_with fail
      refine (rask_all (k1, k2, k3) id HL.out (by omega) HM.out (by omega) _ HFL.out HAc.out HBc.out).mono ?_
      rintro e_ w7 ⟨A3, c3, B3, d3, rfl, ha, hb, hu⟩
      have HA7 := Lib.hid ha
      have HB7 := Lib.hid hb
      have HU7 := Lib.hid hu
      clear ha hb hu x0_ x1_ xl c1_ c2_ c3_ c4_ dl
      obtain ⟨pu, hpu⟩ : ∃ z, zT E (k1, k2, k3) = z := ⟨_, rfl⟩
      obtain ⟨pv, hpv⟩ : ∃ z, zT E2 (k1, k2, k3) = z := ⟨_, rfl⟩
      obtain ⟨qu, hqu⟩ : ∃ z, zA E (k1, k2, k3) = z := ⟨_, rfl⟩
      obtain ⟨qv, hqv⟩ : ∃ z, zA E2 (k1, k2, k3) = z := ⟨_, rfl⟩
      have HTR : Hid (E = E2 → qu = qv ∧ pu = pv) := Lib.hid (fun e => by subst e; exact ⟨by rw [← hqu, ← hqv], by rw [← hpu, ← hpv]⟩)
      rw [hpu] at HAF
      simp only [hpv, hqu, hqv]
      clear hpu hpv hqu hqv
      obtain ⟨u1, u2, u3⟩ := pu
      obtain ⟨v1, v2, v3⟩ := pv
      go_upto_region 5 with fail
      refine Code.gen (fun W => Upd (fun _ => False) w7 W ∧ Blk W w7.heap.size 29 #[.slice A3 (zE E2 (k1, k2, k3) id).length c3, .slice B3 (zJ E2 J2 (k1, k2, k3) id).length d3] ∧ Blk W (w7.heap.size + 1) 35 #[.int .i64 v1, .int .i64 v2, .int .i64 v3]) ⟨(by repeat (first | exact Upd.refl _ _ | refine Upd.alloc ?_ _ | refine Upd.drew ?_ | refine Upd.drewN ?_ _ | refine Upd.put ?_ _ _)), (Blk.new w7 _ _).alloc _, Blk.new1 w7 _ _ _⟩ (fun w8 hW => ?_)
      obtain ⟨hu8, hy8, hs8⟩ := hW
      have HU8 : Hid (Upd (fun _ => False) wc w8) := Lib.hid (HU7.out.trans hu8 (fun _ h => h.elim))
      have HY8 := Lib.hid hy8
      have HS8 := Lib.hid hs8
      have HT8 := Lib.hid (HAF.out.box.upd HU8.out (fun h => h))
      have HR8 := Lib.hid (HRc.out.upd HU8.out (fun h => h))
      have HA8 := Lib.hid (HA7.out.keep0 hu8)
      have HB8 := Lib.hid (HB7.out.keep0 hu8)
      have HP8 := Lib.hid (HAF.out.cs_.upd0 HU8.out)
      clear hu8 hy8 hs8
      have HFIN : Hid (∀ W, (∃ V, Upd (fun _ => False) w8 V ∧ Upd (At (w.heap.size + 1 + 1)) V W) → CS W base g bk bj F1 (zE E (k1, k2, k3) id) (zJ E J (k1, k2, k3) id) (N + 1) ∧ (∀ x, F1 x → F x ∨ w.heap.size ≤ x) ∧ Kp W (fun x => F1 x ∨ X x) A3 (zE E2 (k1, k2, k3) id).length c3 (fl e8 (zE E2 (k1, k2, k3) id)) ∧ Kp W (fun x => F1 x ∨ X x) B3 (zJ E2 J2 (k1, k2, k3) id).length d3 (prs (zJ E2 J2 (k1, k2, k3) id)) ∧ Upd F w W) := Lib.hid (fun W hW => by
        obtain ⟨V, h1, h2⟩ := hW
        have h3 := (HP8.out.upd0 h1).boxT (HR8.out.upd h1 (fun h => h)) (by decide) (by decide) (by decide) h2
        exact ⟨h3, fun x hx => HFS.out x (.inl hx), ((HA8.out.keep0 h1).keep h2 (fun _ h => .inr h)).step (Upd.refl (fun _ => False) _) (fun _ h => h.elim) (fun _ h => .inl (.inl h)), ((HB8.out.keep0 h1).keep h2 (fun _ h => .inr h)).step (Upd.refl (fun _ => False) _) (fun _ h => h.elim) (fun _ h => .inl (.inl h)), ((HUc.out.trans HU8.out (fun _ h => h.elim)).trans h1 (fun _ h => h.elim)).trans h2 (fun x e => .inr (by rw [show x = (w.heap.size + 1 + 1) from e]; omega))⟩)
      have hYR : ¬ w7.heap.size = (w.heap.size + 1 + 1) := by have h1 := HU7.out.size; have h2 := HRc.out.lt; omega
      have hYR' : ¬ (w.heap.size + 1 + 1) = w7.heap.size := by have h1 := HU7.out.size; have h2 := HRc.out.lt; omega
      have hSR : ¬ w7.heap.size + 1 = (w.heap.size + 1 + 1) := by have h1 := HU7.out.size; have h2 := HRc.out.lt; omega
      have hSR' : ¬ (w.heap.size + 1 + 1) = w7.heap.size + 1 := by have h1 := HU7.out.size; have h2 := HRc.out.lt; omega
      have hSR2 : ¬ w7.heap.size = (w.heap.size + 1) := by have h1 := HU7.out.size; have h2 := HRc.out.lt; omega
      have hSR3 : ¬ (w.heap.size + 1) = w7.heap.size := by have h1 := HU7.out.size; have h2 := HRc.out.lt; omega
      have hTR : ¬ tb = (w.heap.size + 1 + 1) := Blk.ne HAF.out.box HRc.out (by decide)
      have hTR' : ¬ (w.heap.size + 1 + 1) = tb := fun e => hTR e.symm
      have y0_ : w8.cell? ⟨w7.heap.size, 0, none⟩ = some (.slice A3 (zE E2 (k1, k2, k3) id).length c3) := HY8.out.cell 0
      have y1_ : w8.cell? ⟨w7.heap.size, 1, none⟩ = some (.slice B3 (zJ E2 J2 (k1, k2, k3) id).length d3) := HY8.out.cell 1
      have yl_ := HY8.out.lt
      have s0_ : w8.cell? ⟨w7.heap.size + 1, 0, none⟩ = some (.int .i64 v1) := HS8.out.cell 0
      have s1_ : w8.cell? ⟨w7.heap.size + 1, 1, none⟩ = some (.int .i64 v2) := HS8.out.cell 1
      have s2_ : w8.cell? ⟨w7.heap.size + 1, 2, none⟩ = some (.int .i64 v3) := HS8.out.cell 2
      have sl_ := HS8.out.lt
      have t0_ : w8.cell? ⟨tb, 0, none⟩ = some (.int .i64 u1) := HT8.out.cell 0
      have t1_ : w8.cell? ⟨tb, 1, none⟩ = some (.int .i64 u2) := HT8.out.cell 1
      have t2_ : w8.cell? ⟨tb, 2, none⟩ = some (.int .i64 u3) := HT8.out.cell 2
      have tl_ := HT8.out.lt
      have r0_ : w8.cell? ⟨(w.heap.size + 1 + 1), 0, none⟩ = some (.slice none 0 0) := HR8.out.cell 0
      have r1_ : w8.cell? ⟨(w.heap.size + 1 + 1), 1, none⟩ = some (.slice none 0 0) := HR8.out.cell 1
      have rl := HR8.out.lt
      have rf : ∀ i, w8.frozen? ⟨(w.heap.size + 1 + 1), i, none⟩ = false := (fun i => HR8.out.frz i)
      by_cases hq : qu = qv
      · have hqq : decide (qu = qv) = true := decide_eq_true hq
        have hq2 : (qu == qv) = true := by simp [hq]
        have heq : ∀ w, (Op.equalIn 10000 44 (.agg #[.int .i64 u1, .int .i64 u2, .int .i64 u3]) (.agg #[.int .i64 v1, .int .i64 v2, .int .i64 v3])).run Try.prog w = .ok (decide (((u1, u2, u3) : K3) = (v1, v2, v3))) w := fun w => eqT (u1, u2, u3) (v1, v2, v3) w
        have hgd : ∀ (op : BinOp) (a b : Operand) (w : World), (eqGuard op 44 a b (.agg #[.int .i64 u1, .int .i64 u2, .int .i64 u3]) (.agg #[.int .i64 v1, .int .i64 v2, .int .i64 v3])).run Try.prog w = .ok () w := fun op a b w => gdT op a b (u1, u2, u3) (v1, v2, v3) w
        obtain ⟨z, hz⟩ : ∃ z, decide (((u1, u2, u3) : K3) = (v1, v2, v3)) = z := ⟨_, rfl⟩
        rw [hz] at heq
        have HZ : Hid (E = E2 → J = J2 → z = true) := Lib.hid (fun e _ => by rw [← hz]; exact decide_eq_true (HTR.out e).2)
        clear hz hq
        go_wp2_with fail
        go_region_held3 (fun w' => w'.cell? ⟨w7.heap.size, 0, none⟩ = some (.slice A3 (zE E2 (k1, k2, k3) id).length c3) ∧ w'.cell? ⟨w7.heap.size, 1, none⟩ = some (.slice B3 (zJ E2 J2 (k1, k2, k3) id).length d3) ∧ w'.cell? ⟨w7.heap.size + 1, 0, none⟩ = some (.int .i64 v1) ∧ w'.cell? ⟨w7.heap.size + 1, 1, none⟩ = some (.int .i64 v2) ∧ w'.cell? ⟨w7.heap.size + 1, 2, none⟩ = some (.int .i64 v3) ∧ w'.cell? ⟨tb, 0, none⟩ = some (.int .i64 u1) ∧ w'.cell? ⟨tb, 1, none⟩ = some (.int .i64 u2) ∧ w'.cell? ⟨tb, 2, none⟩ = some (.int .i64 u3)) (go_keep) ((go_at_call 18; refine (told_to (v1, v2, v3) _).mono ?_; rintro e_ w9 ⟨rfl, hu⟩; have HV9 : Hid (Upd (fun _ => False) w8 w9) := Lib.hid (Upd.trans (by repeat (first | exact Upd.refl _ _ | refine Upd.alloc ?_ _ | refine Upd.drew ?_ | refine Upd.drewN ?_ _)) hu (fun _ h => h.elim)); have hy9 := HY8.out.upd HV9.out (fun h => h); have hs9 := HS8.out.upd HV9.out (fun h => h); have ht9 := HT8.out.upd HV9.out (fun h => h); have hr9 := HR8.out.upd HV9.out (fun h => h); have y90_ : w9.cell? ⟨w7.heap.size, 0, none⟩ = some (.slice A3 (zE E2 (k1, k2, k3) id).length c3) := hy9.cell 0; have y91_ : w9.cell? ⟨w7.heap.size, 1, none⟩ = some (.slice B3 (zJ E2 J2 (k1, k2, k3) id).length d3) := hy9.cell 1; have y9l_ := hy9.lt; have s90_ : w9.cell? ⟨w7.heap.size + 1, 0, none⟩ = some (.int .i64 v1) := hs9.cell 0; have s91_ : w9.cell? ⟨w7.heap.size + 1, 1, none⟩ = some (.int .i64 v2) := hs9.cell 1; have s92_ : w9.cell? ⟨w7.heap.size + 1, 2, none⟩ = some (.int .i64 v3) := hs9.cell 2; have s9l_ := hs9.lt; have t90_ : w9.cell? ⟨tb, 0, none⟩ = some (.int .i64 u1) := ht9.cell 0; have t91_ : w9.cell? ⟨tb, 1, none⟩ = some (.int .i64 u2) := ht9.cell 1; have t92_ : w9.cell? ⟨tb, 2, none⟩ = some (.int .i64 u3) := ht9.cell 2; have t9l_ := ht9.lt; have r90_ : w9.cell? ⟨(w.heap.size + 1 + 1), 0, none⟩ = some (.slice none 0 0) := hr9.cell 0; have r91_ : w9.cell? ⟨(w.heap.size + 1 + 1), 1, none⟩ = some (.slice none 0 0) := hr9.cell 1; have r9l := hr9.lt; have r9f : ∀ i, w9.frozen? ⟨(w.heap.size + 1 + 1), i, none⟩ = false := (fun i => hr9.frz i); clear hu hy9 hs9 ht9 hr9))
        all_goals
          go_wp2
        all_goals refine bodyPost_ret (v := .tuple #[.agg #[.slice A3 (zE E2 (k1, k2, k3) id).length c3, .slice B3 (zJ E2 J2 (k1, k2, k3) id).length d3], .bool z]) (by simp [results, Try.results11, go_sem, cell_drew, r90_, r91_, r9l]) rfl (by rw [HE1.out.1, HE1.out.2.1, HE1.out.2.2.1, HE1.out.2.2.2]; exact ⟨_, _, _, _, _, _, rfl, HZ.out, HFIN.out _ ⟨_, HV9.out, (by repeat (first | exact Upd.refl _ _ | refine Upd.drew ?_ | refine Upd.put ?_ _ _))⟩⟩)
      · have HZ : Hid (E = E2 → J = J2 → false = true) := Lib.hid (fun e _ => absurd (HTR.out e).1 hq)
        go_wp2_with fail
        have hqq : decide (qu = qv) = false := decide_eq_false hq
        have hq2 : (qu == qv) = false := by simp [hq]
        go_region_law (fail)
        all_goals
          go_wp2
        all_goals refine bodyPost_ret (v := .tuple #[.agg #[.slice A3 (zE E2 (k1, k2, k3) id).length c3, .slice B3 (zJ E2 J2 (k1, k2, k3) id).length d3], .bool false]) (by simp [results, Try.results11, go_sem, cell_drew, r0_, r1_, rl]) rfl (by rw [HE1.out.1, HE1.out.2.1, HE1.out.2.2.1, HE1.out.2.2.2]; exact ⟨_, _, _, _, _, _, rfl, HZ.out, HFIN.out _ ⟨w8, Upd.refl _ _, (by repeat (first | exact Upd.refl _ _ | refine Upd.drew ?_ | refine Upd.put ?_ _ _))⟩⟩)
  · have hd1 : (kd == 1) = false := by simp [h1]
    by_cases h2 : kd = 2
    · have hd2 : (kd == 2) = true := by simp [h2]
      have HE1 : Hid (dE E kd id (k1, k2, k3) (t1, t2, t3) = setE E id (t1, t2, t3) ∧ dJ E J kd id (k1, k2, k3) = setJ J id ∧ dE E2 kd id (k1, k2, k3) (t1, t2, t3) = setE E2 id (t1, t2, t3) ∧ dJ E2 J2 kd id (k1, k2, k3) = setJ J2 id) := Lib.hid (by unfold dE dJ; simp only [if_neg h1, if_pos h2]; exact ⟨trivial, trivial, trivial, trivial⟩)
      have HLE := Lib.hid (HSM.out h2)
      obtain ⟨L, hL⟩ : ∃ L, setL J2 id = L := ⟨_, rfl⟩
      have HL2 := Lib.hid hL
      rw [hL] at HLE
      have HLL : Hid (L.length ≤ 1000) := Lib.hid (by rw [← hL]; have := setL_len J2 id; rw [HM.out] at this; omega)
      clear h1 h2 hL
      have d5_ : w1.cell? ⟨(w.heap.size + 1), 5, none⟩ = some (.int .i64 t1) := HD1.out.cell 5
      have d6_ : w1.cell? ⟨(w.heap.size + 1), 6, none⟩ = some (.int .i64 t2) := HD1.out.cell 6
      have d7_ : w1.cell? ⟨(w.heap.size + 1), 7, none⟩ = some (.int .i64 t3) := HD1.out.cell 7
      go_wp2_with fail
      go_region_held3 (fun w' => w'.cell? ⟨(w.heap.size + 1), 1, none⟩ = some (.int .i64 id) ∧ w'.cell? ⟨(w.heap.size + 1), 5, none⟩ = some (.int .i64 t1) ∧ w'.cell? ⟨(w.heap.size + 1), 6, none⟩ = some (.int .i64 t2) ∧ w'.cell? ⟨(w.heap.size + 1), 7, none⟩ = some (.int .i64 t3)) (go_keep) (first | (go_at_call 18; refine (told_to (t1, t2, t3) _).mono ?_; rintro e_ w5 ⟨rfl, hu⟩; have HU5 : Hid (Upd (fun _ => False) w1 w5) := Lib.hid (Upd.trans (by repeat (first | exact Upd.refl _ _ | refine Upd.alloc ?_ _ | refine Upd.drew ?_ | refine Upd.drewN ?_ _)) hu (fun _ h => h.elim)); have hd5 := HD1.out.upd HU5.out (fun h => h); have dl5 := hd5.lt; have a1_ : w5.cell? ⟨(w.heap.size + 1), 1, none⟩ = some (.int .i64 id) := hd5.cell 1; have a5_ : w5.cell? ⟨(w.heap.size + 1), 5, none⟩ = some (.int .i64 t1) := hd5.cell 5; have a6_ : w5.cell? ⟨(w.heap.size + 1), 6, none⟩ = some (.int .i64 t2) := hd5.cell 6; have a7_ : w5.cell? ⟨(w.heap.size + 1), 7, none⟩ = some (.int .i64 t3) := hd5.cell 7; clear hu hd5) | (go_at_call 17; refine (settle_l HLE.out HID.out (Nat.le_of_lt hN) w5 (HP1.out.upd0 HU5.out)).mono ?_; rintro e_ w6 ⟨A6, c6, F1, rfl, hsl, hsub, hcs, hu⟩; have HS6 := Lib.hid hsl; have HF6 := Lib.hid hsub; have HP6 := Lib.hid hcs; have HV6 : Hid (Upd F w1 w6) := Lib.hid ((HU5.out.mono (fun _ h => h.elim)).trans hu (fun _ h => .inl h)); have hd6 := HD1.out.upd HV6.out HND.out; have dl6 := hd6.lt; have b1_ : w6.cell? ⟨(w.heap.size + 1), 1, none⟩ = some (.int .i64 id) := hd6.cell 1; have b5_ : w6.cell? ⟨(w.heap.size + 1), 5, none⟩ = some (.int .i64 t1) := hd6.cell 5; have b6_ : w6.cell? ⟨(w.heap.size + 1), 6, none⟩ = some (.int .i64 t2) := hd6.cell 6; have b7_ : w6.cell? ⟨(w.heap.size + 1), 7, none⟩ = some (.int .i64 t3) := hd6.cell 7; clear hu hsl hsub hcs hd6))
      clear d0_ d1_ d2_ d3_ d4_ d5_ d6_ d7_ dl hd1 a1_ b1_ a5_ b5_ a6_ b6_ a7_ b7_ dl5 dl6
      have HXc := Lib.hid (HX1.out.upd HV6.out HNX.out)
      have HDc := Lib.hid (HD1.out.upd HV6.out HND.out)
      have HRc := Lib.hid (HR1.out.upd HV6.out HNR.out)
      have HFS : Hid (∀ x, (F1 x ∨ At (w.heap.size + 1 + 1) x) → F x ∨ w.heap.size ≤ x) := Lib.hid (fun x hx => hx.elim (fun h => .inl (HF6.out x h)) (fun e => .inr (by rw [show x = (w.heap.size + 1 + 1) from e]; omega)))
      have HUc : Hid (Upd F w w6) := Lib.hid ((HU1.out.mono (fun _ h => h.elim)).trans HV6.out (fun _ h => .inl h))
      have HFL : Hid (∀ x, ((F1 x ∨ X x) ∨ At (w.heap.size + 1 + 1) x) → x < w6.heap.size) := Lib.hid (fun x hx => hx.elim (fun h => h.elim (fun h => (HP6.out.fr x h).2) (fun h => Nat.lt_of_lt_of_le (HXX.out x h) HUc.out.size)) (fun e => by rw [show x = (w.heap.size + 1 + 1) from e]; exact HRc.out.lt))
      have HFS2 : Hid (∀ x, ((F1 x ∨ X x) ∨ At (w.heap.size + 1 + 1) x) → (F x ∨ X x) ∨ w.heap.size ≤ x) := Lib.hid (fun x hx => hx.elim (fun h => h.elim (fun h => (HFS.out x (.inl h)).imp .inl _root_.id) (fun h => .inl (.inr h))) (fun h => (HFS.out x (.inr h)).imp .inl _root_.id))
      have HAc : Hid (Kp w6 (fun x => (F1 x ∨ X x) ∨ At (w.heap.size + 1 + 1) x) A n c (fl e8 E2)) := Lib.hid (HA.out.step HUc.out (fun _ h => .inl (.inl h)) HFS2.out)
      have HBc : Hid (Kp w6 (fun x => (F1 x ∨ X x) ∨ At (w.heap.size + 1 + 1) x) B m d (prs J2)) := Lib.hid (HB.out.step HUc.out (fun _ h => .inl (.inl h)) HFS2.out)
      clear HX1 HD1 HR1 HA1 HB2 HP1
      have x0_ : w6.cell? ⟨w.heap.size, 0, none⟩ = some (.slice A n c) := HXc.out.cell 0
      have x1_ : w6.cell? ⟨w.heap.size, 1, none⟩ = some (.slice B m d) := HXc.out.cell 1
      have xl := HXc.out.lt
      have c1_ : w6.cell? ⟨(w.heap.size + 1), 1, none⟩ = some (.int .i64 id) := HDc.out.cell 1
      have c5_ : w6.cell? ⟨(w.heap.size + 1), 5, none⟩ = some (.int .i64 t1) := HDc.out.cell 5
      have c6_ : w6.cell? ⟨(w.heap.size + 1), 6, none⟩ = some (.int .i64 t2) := HDc.out.cell 6
      have c7_ : w6.cell? ⟨(w.heap.size + 1), 7, none⟩ = some (.int .i64 t3) := HDc.out.cell 7
      have dl := HDc.out.lt
      go_wp2_with fail
      refine (rsettle_l (t1, t2, t3) HL2.out HL.out (by omega) HM.out (by omega) _ HFL.out HAc.out HBc.out).mono ?_
      rintro e_ w7 ⟨A3, c3, B3, d3, L3, l3, rfl, ha, hb, hl3, hu⟩
      have HA7 := Lib.hid ha
      have HB7 := Lib.hid hb
      have HL7 := Lib.hid hl3
      have HU7 := Lib.hid hu
      clear ha hb hl3 hu x0_ x1_ xl c1_ c5_ c6_ c7_ dl
      go_upto_region 9 with fail
      refine Code.gen (fun W => Upd (fun _ => False) w7 W ∧ Blk W w7.heap.size 29 #[.slice A3 n c3, .slice B3 (setJ J2 id).length d3]) ⟨(by repeat (first | exact Upd.refl _ _ | refine Upd.alloc ?_ _ | refine Upd.drew ?_ | refine Upd.drewN ?_ _ | refine Upd.put ?_ _ _)), Blk.new w7 _ _⟩ (fun w8 hW => ?_)
      obtain ⟨hu8, hy8⟩ := hW
      have HU8 : Hid (Upd (fun _ => False) w6 w8) := Lib.hid (HU7.out.trans hu8 (fun _ h => h.elim))
      have HY8 := Lib.hid hy8
      have HR8 := Lib.hid (HRc.out.upd HU8.out (fun h => h))
      have HA8 := Lib.hid (HA7.out.keep0 hu8)
      have HB8 := Lib.hid (HB7.out.keep0 hu8)
      have HL8 := Lib.hid (HL7.out.keep0 hu8)
      have HP8 := Lib.hid (HP6.out.upd0 HU8.out)
      clear hu8 hy8
      have HFIN : Hid (∀ W, (∃ V, Upd (fun _ => False) w8 V ∧ Upd (At (w.heap.size + 1 + 1)) V W) → CS W base g bk bj F1 (setE E id (t1, t2, t3)) (setJ J id) (N + 1) ∧ (∀ x, F1 x → F x ∨ w.heap.size ≤ x) ∧ Kp W (fun x => F1 x ∨ X x) A3 (setE E2 id (t1, t2, t3)).length c3 (fl e8 (setE E2 id (t1, t2, t3))) ∧ Kp W (fun x => F1 x ∨ X x) B3 (setJ J2 id).length d3 (prs (setJ J2 id)) ∧ Upd F w W) := Lib.hid (fun W hW => by
        obtain ⟨V, h1, h2⟩ := hW
        have h3 := ((HP8.out.upd0 h1).boxT (HR8.out.upd h1 (fun h => h)) (by decide) (by decide) (by decide) h2).more (Nat.le_succ N)
        rw [setE_len, HL.out]
        exact ⟨h3, fun x hx => HFS.out x (.inl hx), ((HA8.out.keep0 h1).keep h2 (fun _ h => .inr h)).step (Upd.refl (fun _ => False) _) (fun _ h => h.elim) (fun _ h => .inl (.inl h)), ((HB8.out.keep0 h1).keep h2 (fun _ h => .inr h)).step (Upd.refl (fun _ => False) _) (fun _ h => h.elim) (fun _ h => .inl (.inl h)), ((HUc.out.trans HU8.out (fun _ h => h.elim)).trans h1 (fun _ h => h.elim)).trans h2 (fun x e => .inr (by rw [show x = (w.heap.size + 1 + 1) from e]; omega))⟩)
      have HNE : Hid ((setE E2 id (t1, t2, t3)).length = n) := Lib.hid (by rw [setE_len, HL.out])
      have hYR : ¬ w7.heap.size = (w.heap.size + 1 + 1) := by have h1 := HU7.out.size; have h2 := HRc.out.lt; omega
      have hYR' : ¬ (w.heap.size + 1 + 1) = w7.heap.size := by have h1 := HU7.out.size; have h2 := HRc.out.lt; omega
      have y0_ : w8.cell? ⟨w7.heap.size, 0, none⟩ = some (.slice A3 n c3) := HY8.out.cell 0
      have y1_ : w8.cell? ⟨w7.heap.size, 1, none⟩ = some (.slice B3 (setJ J2 id).length d3) := HY8.out.cell 1
      have yl_ := HY8.out.lt
      have r0_ : w8.cell? ⟨(w.heap.size + 1 + 1), 0, none⟩ = some (.slice none 0 0) := HR8.out.cell 0
      have r1_ : w8.cell? ⟨(w.heap.size + 1 + 1), 1, none⟩ = some (.slice none 0 0) := HR8.out.cell 1
      have rl := HR8.out.lt
      have rf : ∀ i, w8.frozen? ⟨(w.heap.size + 1 + 1), i, none⟩ = false := (fun i => HR8.out.frz i)
      go_wp2_with fail
      go_region_held3 (fun w' => w'.cell? ⟨w7.heap.size, 0, none⟩ = some (.slice A3 n c3) ∧ w'.cell? ⟨w7.heap.size, 1, none⟩ = some (.slice B3 (setJ J2 id).length d3)) (go_keep) ((go_at_call 19; refine (same_to rfl HLL.out _ (HS6.out.upd0 (HU8.out.trans ((Upd.refl (fun _ => False) w8).drew) (fun _ h => h.elim))) (HL8.out.sl.upd0 ((Upd.refl (fun _ => False) w8).drew))).mono ?_; rintro e_ w9 ⟨rfl, hu⟩; have HV9 : Hid (Upd (fun _ => False) w8 w9) := Lib.hid (Upd.trans (by repeat (first | exact Upd.refl _ _ | refine Upd.alloc ?_ _ | refine Upd.drew ?_ | refine Upd.drewN ?_ _)) hu (fun _ h => h.elim)); have hy9 := HY8.out.upd HV9.out (fun h => h); have hr9 := HR8.out.upd HV9.out (fun h => h); have y90_ : w9.cell? ⟨w7.heap.size, 0, none⟩ = some (.slice A3 n c3) := hy9.cell 0; have y91_ : w9.cell? ⟨w7.heap.size, 1, none⟩ = some (.slice B3 (setJ J2 id).length d3) := hy9.cell 1; have y9l_ := hy9.lt; have r90_ : w9.cell? ⟨(w.heap.size + 1 + 1), 0, none⟩ = some (.slice none 0 0) := hr9.cell 0; have r91_ : w9.cell? ⟨(w.heap.size + 1 + 1), 1, none⟩ = some (.slice none 0 0) := hr9.cell 1; have r9l := hr9.lt; have r9f : ∀ i, w9.frozen? ⟨(w.heap.size + 1 + 1), i, none⟩ = false := (fun i => hr9.frz i); clear hu hy9 hr9))
      all_goals
        go_wp2
      all_goals refine bodyPost_ret (v := .tuple #[.agg #[.slice A3 n c3, .slice B3 (setJ J2 id).length d3], .bool true]) (by simp [results, Try.results11, go_sem, cell_drew, r90_, r91_, r9l]) rfl (by rw [HE1.out.1, HE1.out.2.1, HE1.out.2.2.1, HE1.out.2.2.2]; exact ⟨A3, c3, B3, d3, _, F1, by rw [HNE.out], (fun _ _ => rfl), HFIN.out _ ⟨_, HV9.out, (by repeat (first | exact Upd.refl _ _ | refine Upd.drew ?_ | refine Upd.put ?_ _ _))⟩⟩)
    · have hd2 : (kd == 2) = false := by simp [h2]
      have HE1 : Hid (dE E kd id (k1, k2, k3) (t1, t2, t3) = cloE E k1 ∧ dJ E J kd id (k1, k2, k3) = J ∧ dE E2 kd id (k1, k2, k3) (t1, t2, t3) = cloE E2 k1 ∧ dJ E2 J2 kd id (k1, k2, k3) = J2) := Lib.hid (by unfold dE dJ; simp only [if_neg h1, if_neg h2]; exact ⟨trivial, trivial, trivial, trivial⟩)
      clear h1 h2
      go_wp2_with fail
      refine (close_to k1 (Nat.le_of_lt hN) _ HP1.out).mono ?_
      rintro e_ w6 ⟨rfl, hcs, hu⟩
      have HP6 := Lib.hid hcs
      have HV6 : Hid (Upd F w1 w6) := Lib.hid (hu.mono (fun i hi => .inl (by rw [show i = bk from hi]; exact HP1.out.fk)))
      clear hcs hu d0_ d1_ d2_ d3_ d4_ dl
      have HXc := Lib.hid (HX1.out.upd HV6.out HNX.out)
      have HDc := Lib.hid (HD1.out.upd HV6.out HND.out)
      have HRc := Lib.hid (HR1.out.upd HV6.out HNR.out)
      have HFS : Hid (∀ x, (F x ∨ At (w.heap.size + 1 + 1) x) → F x ∨ w.heap.size ≤ x) := Lib.hid (fun x hx => hx.imp _root_.id (fun e => by rw [show x = (w.heap.size + 1 + 1) from e]; omega))
      have HUc : Hid (Upd F w w6) := Lib.hid ((HU1.out.mono (fun _ h => h.elim)).trans HV6.out (fun _ h => .inl h))
      have HFL : Hid (∀ x, ((F x ∨ X x) ∨ At (w.heap.size + 1 + 1) x) → x < w6.heap.size) := Lib.hid (fun x hx => hx.elim (fun h => h.elim (fun h => (HP6.out.fr x h).2) (fun h => Nat.lt_of_lt_of_le (HXX.out x h) HUc.out.size)) (fun e => by rw [show x = (w.heap.size + 1 + 1) from e]; exact HRc.out.lt))
      have HFS2 : Hid (∀ x, ((F x ∨ X x) ∨ At (w.heap.size + 1 + 1) x) → (F x ∨ X x) ∨ w.heap.size ≤ x) := Lib.hid (fun x hx => hx.elim (fun h => h.elim (fun h => (HFS.out x (.inl h)).imp .inl _root_.id) (fun h => .inl (.inr h))) (fun h => (HFS.out x (.inr h)).imp .inl _root_.id))
      have HAc : Hid (Kp w6 (fun x => (F x ∨ X x) ∨ At (w.heap.size + 1 + 1) x) A n c (fl e8 E2)) := Lib.hid (HA.out.step HUc.out (fun _ h => .inl (.inl h)) HFS2.out)
      have HBc : Hid (Kp w6 (fun x => (F x ∨ X x) ∨ At (w.heap.size + 1 + 1) x) B m d (prs J2)) := Lib.hid (HB.out.step HUc.out (fun _ h => .inl (.inl h)) HFS2.out)
      clear HX1 HD1 HR1 HA1 HB2 HP1
      have x0_ : w6.cell? ⟨w.heap.size, 0, none⟩ = some (.slice A n c) := HXc.out.cell 0
      have x1_ : w6.cell? ⟨w.heap.size, 1, none⟩ = some (.slice B m d) := HXc.out.cell 1
      have xl := HXc.out.lt
      have c2_ : w6.cell? ⟨(w.heap.size + 1), 2, none⟩ = some (.int .i64 k1) := HDc.out.cell 2
      have dl := HDc.out.lt
      go_wp2_with fail
      refine (rclose_to k1 HL.out (by omega) _ HFL.out HAc.out HBc.out).mono ?_
      rintro e_ w7 ⟨A3, c3, rfl, ha, hb, hu⟩
      have HA7 := Lib.hid ha
      have HB7 := Lib.hid hb
      have HU7 := Lib.hid hu
      clear ha hb hu x0_ x1_ xl c2_ dl
      have HY8 := Lib.hid (Blk.new w7 #[.slice A3 (cloE E2 k1).length c3, .slice B m d] 29)
      have HU8 : Hid (Upd (fun _ => False) w6 (w7.alloc (.cells #[.slice A3 (cloE E2 k1).length c3, .slice B m d] 29))) := Lib.hid (HU7.out.alloc _)
      have HR8 := Lib.hid (HRc.out.upd HU8.out (fun h => h))
      have y0_ : (w7.alloc (.cells #[.slice A3 (cloE E2 k1).length c3, .slice B m d] 29)).cell? ⟨w7.heap.size, 0, none⟩ = some (.slice A3 (cloE E2 k1).length c3) := HY8.out.cell 0
      have y1_ : (w7.alloc (.cells #[.slice A3 (cloE E2 k1).length c3, .slice B m d] 29)).cell? ⟨w7.heap.size, 1, none⟩ = some (.slice B m d) := HY8.out.cell 1
      have yl_ := HY8.out.lt
      have r0_ : (w7.alloc (.cells #[.slice A3 (cloE E2 k1).length c3, .slice B m d] 29)).cell? ⟨(w.heap.size + 1 + 1), 0, none⟩ = some (.slice none 0 0) := HR8.out.cell 0
      have r1_ : (w7.alloc (.cells #[.slice A3 (cloE E2 k1).length c3, .slice B m d] 29)).cell? ⟨(w.heap.size + 1 + 1), 1, none⟩ = some (.slice none 0 0) := HR8.out.cell 1
      have rl := HR8.out.lt
      have rf : ∀ i, (w7.alloc (.cells #[.slice A3 (cloE E2 k1).length c3, .slice B m d] 29)).frozen? ⟨(w.heap.size + 1 + 1), i, none⟩ = false := (fun i => HR8.out.frz i)
      have HFIN : Hid (∀ W, Upd (At (w.heap.size + 1 + 1)) (w7.alloc (.cells #[.slice A3 (cloE E2 k1).length c3, .slice B m d] 29)) W → CS W base g bk bj F (cloE E k1) J (N + 1) ∧ (∀ x, F x → F x ∨ w.heap.size ≤ x) ∧ Kp W (fun x => F x ∨ X x) A3 (cloE E2 k1).length c3 (fl e8 (cloE E2 k1)) ∧ Kp W (fun x => F x ∨ X x) B J2.length d (prs J2) ∧ Upd F w W) := Lib.hid (fun W h2 => by
        have h3 := ((HP6.out.upd0 HU8.out).boxT HR8.out (by decide) (by decide) (by decide) h2).more (Nat.le_succ N)
        rw [HM.out]
        exact ⟨h3, fun x hx => .inl hx, ((HA7.out.keep0 ((Upd.refl _ _).alloc _)).keep h2 (fun _ h => .inr h)).step (Upd.refl (fun _ => False) _) (fun _ h => h.elim) (fun _ h => .inl (.inl h)), ((HB7.out.keep0 ((Upd.refl _ _).alloc _)).keep h2 (fun _ h => .inr h)).step (Upd.refl (fun _ => False) _) (fun _ h => h.elim) (fun _ h => .inl (.inl h)), (HUc.out.trans HU8.out (fun _ h => h.elim)).trans h2 (fun x e => .inr (by rw [show x = (w.heap.size + 1 + 1) from e]; omega))⟩)
      obtain ⟨p, hp_⟩ : ∃ z : Int, ((E.length - (cloE E k1).length : Nat) : Int) = z := ⟨_, rfl⟩
      obtain ⟨q, hq_⟩ : ∃ z : Int, ((E2.length : Int) - ((cloE E2 k1).length : Int)) = z := ⟨_, rfl⟩
      have HPQ : Hid (E = E2 → J = J2 → (p == q) = true) := Lib.hid (fun e _ => by subst e; have := clo_le E k1; rw [← hp_, ← hq_]; simp; omega)
      simp only [hp_, hq_]
      clear hp_ hq_
      go_wp2
      refine bodyPost_ret (v := .tuple #[.agg #[.slice A3 (cloE E2 k1).length c3, .slice B m d], .bool (p == q)]) (by simp [results, Try.results11, go_sem, cell_drew, r0_, r1_, rl]) rfl (by rw [HE1.out.1, HE1.out.2.1, HE1.out.2.2.1, HE1.out.2.2.2]; exact ⟨A3, c3, B, d, _, F, by rw [HM.out], HPQ.out, HFIN.out _ (by repeat (first | exact Upd.refl _ _ | refine Upd.drew ?_ | refine Upd.put ?_ _ _))⟩)
end
end Go.Proofs.Ytninaaolbgchpaa
