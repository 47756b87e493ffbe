/- Ask. -/
import Derived.Test.YtninaaolbgchpaaCj
import Derived.Deep.CutBlock
import Derived.Deep.CutRange
namespace Go.Proofs.Ytninaaolbgchpaa
open Go.RowKit
open Go.Maps (Keyed IsMap Tidy)
set_option linter.unusedVariables false
set_option linter.unusedSimpArgs false

theorem JRows.row0 {w : World} {base : Nat} {F F' : Nat → Prop} {JL : List (Int × Value)} {J : List J2} (h : JRows w base F JL J) (hF : ∀ k, F k → F' k) : JRows w base F' JL J :=
  ⟨fun id v hv => ⟨(h.row id v hv).1, fun b hb => hF b ((h.row id v hv).2 b hb)⟩, h.no, h.ne⟩
theorem ask_nil (k : K3) (id : Int) (w : World) : Calls Try.prog 15 #[.pointer none, kval k, .int .i64 id] w fun e w' => e = .returned (.tuple #[.int .i64 1, kval (0, 0, 0)]) ∧ Upd (fun _ => False) w w' := by
  go_enter Try.func15, Try.ntmps15
  go_wp2
  refine bodyPost_ret (v := .tuple #[.int .i64 1, kval (0, 0, 0)]) (by simp [results, Try.results15, go_sem]) rfl ⟨rfl, ?_⟩
  exact (by repeat (first | exact Upd.refl _ _ | refine Upd.alloc ?_ _ | refine Upd.drew ?_ | refine Upd.drewN ?_ _ | refine Upd.put ?_ _ _))
theorem ask_zero {g : Nat} (k : K3) (hk : k.1 = 0) (id : Int) (w : World) : Calls Try.prog 15 #[.pointer (some ⟨g, 0, none⟩), kval k, .int .i64 id] w fun e w' => e = .returned (.tuple #[.int .i64 1, kval (0, 0, 0)]) ∧ Upd (fun _ => False) w w' := by
  go_enter Try.func15, Try.ntmps15
  go_wp2
  refine bodyPost_ret (v := .tuple #[.int .i64 1, kval (0, 0, 0)]) (by simp [results, Try.results15, go_sem]) rfl ⟨rfl, ?_⟩
  exact (by repeat (first | exact Upd.refl _ _ | refine Upd.alloc ?_ _ | refine Upd.drew ?_ | refine Upd.drewN ?_ _ | refine Upd.put ?_ _ _))
set_option maxHeartbeats 4000000 in
set_option maxRecDepth 100000 in
theorem ask_off {base g bk bj N : Nat} {F X : Nat → Prop} {E : List En} {J : List J2} {k : K3} {id : Int} (hk : kok k) (hk0 : k.1 ≠ 0) (hid : iok id) (hN : N < 1000) (w : World) (hp : CS w base g bk bj F E J N) (hX : CS w base g bk bj (fun k => F k ∨ X k) E J N) :
    Calls Try.prog 15 #[.pointer (some ⟨g, 0, none⟩), kval k, .int .i64 id] w fun e w' => e = .returned (.tuple #[.int .i64 (askA E k), kval (askT E k)]) ∧ (∃ F', CS w' base g bk bj F' (askE E k id) (askJ E J k id) (N + 1) ∧ CS w' base g bk bj (fun k => F' k ∨ X k) (askE E k id) (askJ E J k id) (N + 1) ∧ ∀ x, F' x → F x ∨ w.heap.size ≤ x) ∧ Upd F w w' := by
  have HQX := Lib.hid hX
  clear hX
  have HP := Lib.hid hp
  have HK := Lib.hid hk
  have HID := Lib.hid hid
  obtain ⟨k1, k2, k3⟩ := k
  simp only at hk0
  clear hp hk hid
  go_enter Try.func15, Try.ntmps15
  go_upto_region 3 with fail
  refine Code.gen (fun W => Upd (fun _ => False) w W ∧ Blk W w.heap.size 47 #[.int .i64 k1, .int .i64 k2, .int .i64 k3] ∧ Blk W (w.heap.size + 1) 44 #[.int .i64 0, .int .i64 0, .int .i64 0]) ⟨(by repeat (first | exact Upd.refl _ _ | refine Upd.alloc ?_ _ | refine Upd.drew ?_ | refine Upd.drewN ?_ _ | refine Upd.put ?_ _ _)), (Blk.new w _ _).alloc _, Blk.new1 w _ _ _⟩ (fun w1 hW => ?_)
  obtain ⟨hu1, hb1, hb2⟩ := hW
  have HU1 := Lib.hid hu1
  have HB1 := Lib.hid hb1
  have HB2 := Lib.hid hb2
  have HP1 := Lib.hid (HP.out.upd0 hu1)
  have HNW : Hid (w.heap.size + 1 < w1.heap.size) := Lib.hid hb2.lt
  obtain ⟨n, D, EP, hn, hm, he, hl, ht⟩ := HQX.out.keys
  obtain ⟨lead, p, hlook, hent⟩ := look_all (bk := bk) (n := n) hl HK.out
  rw [he] at hlook hent
  have HM := Lib.hid hm
  have HL := Lib.hid hl
  have HT := Lib.hid ht
  have HE := Lib.hid he
  have HLOOK := Lib.hid hlook
  have HENT := Lib.hid hent
  clear hu1 hb1 hb2 hm hl ht he hlook hent
  obtain ⟨q, hq⟩ : ∃ z, (entK E (k1, k2, k3)).isSome = z := ⟨_, rfl⟩
  have HQ := Lib.hid hq
  rw [hq] at HLOOK
  clear hq
  go_cut [8, 9] from 10 to 62 (fun ev tv wx => ev = .pointer (some ⟨w1.heap.size, 0, none⟩) ∧ tv = .bool q ∧ Hid (Blk wx w1.heap.size 71 #[.int .i64 lead, .pointer p]) ∧ Hid (Upd (fun _ => False) w1 wx))
  case first =>
    have c0 : w1.cell? ⟨g, 0, none⟩ = some (.map (some bk)) := HP1.out.blk.cell 0
    have clt := HP1.out.blk.lt
    have k0_ : w1.cell? ⟨w.heap.size, 0, none⟩ = some (.int .i64 k1) := HB1.out.cell 0
    have k1_ : w1.cell? ⟨w.heap.size, 1, none⟩ = some (.int .i64 k2) := HB1.out.cell 1
    have k2_ : w1.cell? ⟨w.heap.size, 2, none⟩ = some (.int .i64 k3) := HB1.out.cell 2
    have klt := HB1.out.lt
    have hl1 := HLOOK.out w1.drew (HM.out.upd0 (HU1.out.drew))
    have hl2 := HLOOK.out (w1.alloc (.cells #[.int .i64 0, .pointer none] 71)).drew (HM.out.upd0 (HU1.out.alloc _).drew)
    go_region_held3 (fun w' => w'.cell? ⟨g, 0, none⟩ = some (.map (some bk)) ∧ w'.cell? ⟨w.heap.size, 0, none⟩ = some (.int .i64 k1) ∧ w'.cell? ⟨w.heap.size, 1, none⟩ = some (.int .i64 k2) ∧ w'.cell? ⟨w.heap.size, 2, none⟩ = some (.int .i64 k3)) (go_keep) (fail)
    all_goals (go_wp2_with fail; go_meet)
    all_goals (case rel => exact ⟨rfl, rfl, Lib.hid (Blk.new w1 _ _).drew, Lib.hid ((Upd.refl _ w1).alloc _).drew⟩)
  case rest =>
    obtain ⟨rfl, rfl, HBE, HU2⟩ := hcut
    have HUc := Lib.hid (HU1.out.trans HU2.out (fun _ h => h.elim))
    have HBKc := Lib.hid (HB1.out.upd HU2.out (fun h => h))
    have HBTc := Lib.hid (HB2.out.upd HU2.out (fun h => h))
    have HMc := Lib.hid (HM.out.upd0 HUc.out)
    have HPc := Lib.hid (HP1.out.upd0 HU2.out)
    have HTB : Hid (¬ F (w.heap.size + 1)) := Lib.hid (fun h => by have := (HP.out.fr _ h).2; omega)
    clear HU1 HB1 HB2 HLOOK HP1
    have c0 : wc.cell? ⟨g, 0, none⟩ = some (.map (some bk)) := HPc.out.blk.cell 0
    have c1 : wc.cell? ⟨g, 1, none⟩ = some (.map (some bj)) := HPc.out.blk.cell 1
    have clt := HPc.out.blk.lt
    have k0_ : wc.cell? ⟨w.heap.size, 0, none⟩ = some (.int .i64 k1) := HBKc.out.cell 0
    have k1_ : wc.cell? ⟨w.heap.size, 1, none⟩ = some (.int .i64 k2) := HBKc.out.cell 1
    have k2_ : wc.cell? ⟨w.heap.size, 2, none⟩ = some (.int .i64 k3) := HBKc.out.cell 2
    have klt := HBKc.out.lt
    have e0_ : wc.cell? ⟨w1.heap.size, 0, none⟩ = some (.int .i64 lead) := HBE.out.cell 0
    have e1_ : wc.cell? ⟨w1.heap.size, 1, none⟩ = some (.pointer p) := HBE.out.cell 1
    have elt := HBE.out.lt
    have t0_ : wc.cell? ⟨w.heap.size + 1, 0, none⟩ = some (.int .i64 0) := HBTc.out.cell 0
    have t1_ : wc.cell? ⟨w.heap.size + 1, 1, none⟩ = some (.int .i64 0) := HBTc.out.cell 1
    have t2_ : wc.cell? ⟨w.heap.size + 1, 2, none⟩ = some (.int .i64 0) := HBTc.out.cell 2
    have tlt := HBTc.out.lt
    have tf_ : ∀ i, wc.frozen? ⟨w.heap.size + 1, i, none⟩ = false := fun i => HBTc.out.frz i
    obtain ⟨o, ho⟩ : ∃ z, entK E (k1, k2, k3) = z := ⟨_, rfl⟩
    have HO := Lib.hid ho
    rw [ho] at HQ HENT
    clear ho
    cases o with
    | none =>
      obtain rfl : q = false := HQ.out.symm
      have hn9 : n < maxLen := by unfold maxLen; omega
      go_wp2_with fail
      go_still_tail 7, (by kernel_rfl)
      change wpList _ _ _ _ _ wc.drew
      go_wp2_with (at_mapUpdate; go_loud (refine wpList_put _ rfl _ _ _ 58 rfl 47 71 keyK Try.underlying58 bk n D rfl (show Mp wc.drew Try.prog 47 bk n D from HMc.out) hn9 (kval (k1, k2, k3)) (.agg #[.int .i64 id, .pointer none]) (kkl (k1, k2, k3)) rfl rfl (kkey HK.out) ?_; intro w3 hm3 hu3; go_frame; have HM3 := Lib.hid hm3; have HU3 : Hid (Upd (At bk) w w3) := Lib.hid ((HUc.out.drew.mono (fun _ h => h.elim)).trans hu3 (fun i hi => .inl hi)); have hbt3 := HBTc.out.drew.upd hu3 (fun e => HTB.out ((show w.heap.size + 1 = bk from e) ▸ HP.out.fk)); have t0_ : w3.cell? ⟨w.heap.size + 1, 0, none⟩ = some (.int .i64 0) := hbt3.cell 0; have t1_ : w3.cell? ⟨w.heap.size + 1, 1, none⟩ = some (.int .i64 0) := hbt3.cell 1; have t2_ : w3.cell? ⟨w.heap.size + 1, 2, none⟩ = some (.int .i64 0) := hbt3.cell 2; have tlt := hbt3.lt; have tf_ : ∀ i, w3.frozen? ⟨w.heap.size + 1, i, none⟩ = false := fun i => hbt3.frz i; have HNE : Hid (bk ≠ w.heap.size + 1) := Lib.hid (hm3.ne_blk hbt3); clear hm3 hu3 hbt3))
      have HFIN : Hid (∀ W, Upd (At (w.heap.size + 1)) w3 W → (∃ F', CS W base g bk bj F' (askE E (k1, k2, k3) id) (askJ E J (k1, k2, k3) id) (N + 1) ∧ CS W base g bk bj (fun k => F' k ∨ X k) (askE E (k1, k2, k3) id) (askJ E J (k1, k2, k3) id) (N + 1) ∧ ∀ x, F' x → F x ∨ w.heap.size ≤ x) ∧ Upd F w W) := Lib.hid (fun W hu => by
        have h := HP.out
        have huw : Upd (At bk) w W := HU3.out.trans hu (fun i hi => .inr (by rw [show i = w.heap.size + 1 from hi]; omega))
        have e1 : askE E (k1, k2, k3) id = E ++ [⟨(k1, k2, k3), id, none⟩] := by unfold askE; rw [HO.out]; rfl
        have e2 : askJ E J (k1, k2, k3) id = J := by unfold askJ; rw [HO.out]
        rw [e1, e2]
        have both : ∀ G : Nat → Prop, CS w base g bk bj G E J N → (∀ k, G k → F k ∨ X k) → CS W base g bk bj G (E ++ [⟨(k1, k2, k3), id, none⟩]) J (N + 1) := fun G h hG => by
          refine h.mk_keys huw (fun e he => ?_) (Nat.le_succ _) ⟨n + 1, _, EP ++ [(⟨(k1, k2, k3), id, none⟩, none)], by omega, HM3.out.upd hu HNE.out, by rw [List.map_append, HE.out]; rfl, (HL.out.put kklit HK.out _).perm (em_new id (by rw [HE.out]; exact HO.out)), fun q hq => ?_⟩
          · rcases List.mem_append.1 he with he | he
            · exact h.ids e he
            · simp at he; subst he; exact HID.out
          · rcases List.mem_append.1 hq with hq | hq
            · exact (HT.out q hq).upd huw (fun k hk => .inl (by rw [show k = bk from hk]; exact .inl HP.out.fk)) (fun k hf => .inl (hG k hf))
            · simp at hq; subst hq; rfl
        exact ⟨⟨F, both F h (fun _ hf => .inl hf), both _ HQX.out (fun _ hf => hf), fun _ hx => .inl hx⟩, huw.mono (fun i hi => .inl (by rw [show i = bk from hi]; exact h.fk))⟩)
      have HR1 : Hid (askA E (k1, k2, k3) = 1) := Lib.hid (by unfold askA; rw [HO.out])
      have HR2 : Hid (askT E (k1, k2, k3) = (0, 0, 0)) := Lib.hid (by unfold askT; rw [HO.out])
      refine bodyPost_ret (v := .tuple #[.int .i64 1, kval (0, 0, 0)]) (by simp [results, Try.results15, go_sem, t0_, t1_, t2_, tlt]) rfl ⟨by rw [HR1.out, HR2.out], HFIN.out _ (by repeat (first | exact Upd.refl _ _ | refine Upd.alloc ?_ _ | refine Upd.drew ?_ | refine Upd.drewN ?_ _ | refine Upd.put ?_ _ _))⟩
    | some e =>
      obtain rfl : q = true := HQ.out.symm
      obtain ⟨rfl, hep⟩ := HENT.out e rfl
      have hte := HT.out _ hep
      have hie := HP.out.ids e (entK_some HO.out).1
      obtain ⟨ek, eid, et⟩ := e
      simp only at *
      have HIE := Lib.hid hie
      have HTE := Lib.hid hte
      clear hep hte hie
      cases et with
      | some t =>
        obtain ⟨tb, rfl, hbt, hge, hnF⟩ := HTE.out
        have HBB := Lib.hid (hbt.upd HUc.out (fun h => h))
        obtain ⟨t1, t2, t3⟩ := t
        have b0_ : wc.cell? ⟨tb, 0, none⟩ = some (.int .i64 t1) := HBB.out.cell 0
        have b1_ : wc.cell? ⟨tb, 1, none⟩ = some (.int .i64 t2) := HBB.out.cell 1
        have b2_ : wc.cell? ⟨tb, 2, none⟩ = some (.int .i64 t3) := HBB.out.cell 2
        have blt := HBB.out.lt
        clear hbt hge hnF
        have HFIN : Hid (∀ W, Upd (At (w.heap.size + 1)) wc W → (∃ F', CS W base g bk bj F' (askE E (k1, k2, k3) id) (askJ E J (k1, k2, k3) id) (N + 1) ∧ CS W base g bk bj (fun k => F' k ∨ X k) (askE E (k1, k2, k3) id) (askJ E J (k1, k2, k3) id) (N + 1) ∧ ∀ x, F' x → F x ∨ w.heap.size ≤ x) ∧ Upd F w W) := Lib.hid (fun W hu => by
          have h := HP.out
          have huw : Upd (At (w.heap.size + 1)) w W := (HUc.out.mono (fun _ h => h.elim)).trans hu (fun i hi => .inl hi)
          have e1 : askE E (k1, k2, k3) id = E := by unfold askE; rw [HO.out]; rfl
          have e2 : askJ E J (k1, k2, k3) id = J := by unfold askJ; rw [HO.out]
          rw [e1, e2]
          exact ⟨⟨F, (h.later huw (fun k hk => .inr (by rw [show k = w.heap.size + 1 from hk]; omega))).more (Nat.le_succ _), (HQX.out.later huw (fun k hk => .inr (by rw [show k = w.heap.size + 1 from hk]; omega))).more (Nat.le_succ _), fun _ hx => .inl hx⟩, huw.mono (fun i hi => .inr (by rw [show i = w.heap.size + 1 from hi]; omega))⟩)
        have HR1 : Hid (askA E (k1, k2, k3) = 3) := Lib.hid (by unfold askA; rw [HO.out])
        have HR2 : Hid (askT E (k1, k2, k3) = (t1, t2, t3)) := Lib.hid (by unfold askT; rw [HO.out])
        go_wp2_with fail
        go_still_tail 5, (by kernel_rfl)
        change wpList _ _ _ _ _ wc.drew
        go_wp2
        refine bodyPost_ret (v := .tuple #[.int .i64 3, kval (t1, t2, t3)]) (by simp [results, Try.results15, go_sem, t0_, t1_, t2_, tlt]) rfl ⟨by rw [HR1.out, HR2.out], HFIN.out _ (by repeat (first | exact Upd.refl _ _ | refine Upd.alloc ?_ _ | refine Upd.drew ?_ | refine Upd.drewN ?_ _ | refine Upd.put ?_ _ _))⟩
      | none =>
        obtain rfl : p = none := HTE.out
        obtain ⟨v, v', w3, w4, F', hl1, hl2, hr, hp, hj, hf1, hf2, hf3, hu3, hu4⟩ := (HPc.out.upd0 ((Upd.refl _ wc).drew)).join hN id HIE.out
        have HJ := Lib.hid hj
        have HF1 := Lib.hid hf1
        have HF2 : Hid (∀ k, F' k → F k ∨ w.heap.size ≤ k) := Lib.hid (fun k hk => (hf2 k hk).imp _root_.id (fun h => by have := HUc.out.size; have h : wc.heap.size ≤ k := h; omega))
        have HF3 := Lib.hid hf3
        have HU4 : Hid (Upd (fun k => F k ∧ k ≠ bk) w w4) := Lib.hid ((HUc.out.drew.mono (fun _ h => h.elim)).trans hu4 (fun _ h => .inl h))
        have hb3 := HBTc.out.drew.upd hu3 HTB.out
        have hb4 := HBTc.out.drew.upd hu4 (fun h => HTB.out h.1)
        have hg3 := HPc.out.blk.drew.upd hu3 HPc.out.gF
        have hg4 := HPc.out.blk.drew.upd hu4 (fun h => HPc.out.gF h.1)
        have HEF : Hid (¬ F w1.heap.size) := Lib.hid (fun h => by have h1 := (HP.out.fr _ h).2; have h2 := HBKc.out.lt; have h3 := HNW.out; omega)
        have he3 := HBE.out.drew.upd hu3 HEF.out
        have he4 := HBE.out.drew.upd hu4 (fun h => HEF.out h.1)
        have hl3 : (Instr.lookup 59 (.map (some bj)) (.int .i64 eid) false).run Try.prog (wc.alloc (.cells #[.int .i64 id] 3)).drew = .ok v (wc.alloc (.cells #[.int .i64 id] 3)).drew := hl2
        have hr3 : (Builtin.append_ #[49, 49] 49 #[v, .slice (some ⟨wc.heap.size, 0, none⟩) 1 1]).run Try.prog (wc.alloc (.cells #[.int .i64 id] 3)).drew = .ok v' w3 := hr
        have a3g : w3.cell? ⟨g, 1, none⟩ = some (.map (some bj)) := hg3.cell 1
        have a4g : w4.cell? ⟨g, 1, none⟩ = some (.map (some bj)) := hg4.cell 1
        have a3e : w3.cell? ⟨w1.heap.size, 0, none⟩ = some (.int .i64 eid) := he3.cell 0
        have a4e : w4.cell? ⟨w1.heap.size, 0, none⟩ = some (.int .i64 eid) := he4.cell 0
        have s0_ : w4.cell? ⟨w.heap.size + 1, 0, none⟩ = some (.int .i64 0) := hb4.cell 0
        have s1_ : w4.cell? ⟨w.heap.size + 1, 1, none⟩ = some (.int .i64 0) := hb4.cell 1
        have s2_ : w4.cell? ⟨w.heap.size + 1, 2, none⟩ = some (.int .i64 0) := hb4.cell 2
        have slt := hb4.lt
        have sf_ : ∀ i, w4.frozen? ⟨w.heap.size + 1, i, none⟩ = false := fun i => hb4.frz i
        have HFIN : Hid (∀ W, Upd (At (w.heap.size + 1)) w4 W → (∃ F', CS W base g bk bj F' (askE E (k1, k2, k3) id) (askJ E J (k1, k2, k3) id) (N + 1) ∧ CS W base g bk bj (fun k => F' k ∨ X k) (askE E (k1, k2, k3) id) (askJ E J (k1, k2, k3) id) (N + 1) ∧ ∀ x, F' x → F x ∨ w.heap.size ≤ x) ∧ Upd F w W) := Lib.hid (fun W hu => by
          have h := HP.out
          have e1 : askE E (k1, k2, k3) id = E := by unfold askE; rw [HO.out]; rfl
          have e2 : askJ E J (k1, k2, k3) id = J ++ [(eid, id)] := by unfold askJ; rw [HO.out]
          rw [e1, e2]
          have huw : Upd (fun k => F k ∧ k ≠ bk) w W := HU4.out.trans hu (fun i hi => .inr (by rw [show i = w.heap.size + 1 from hi]; omega))
          have hTB' : ¬ F' (w.heap.size + 1) := fun hf => by
            rcases hf2 _ hf with h1 | h1
            · exact HTB.out h1
            · have h2 := HBTc.out.lt; have h1 : wc.heap.size ≤ w.heap.size + 1 := h1; omega
          refine ⟨⟨F', h.mk_joins huw (fun k hk => .inl hk.1) (fun hk => hk.2 rfl) (Nat.le_succ _) (by have := h.jn; simp; omega) HF1.out HF2.out (fun k hk => Nat.lt_of_lt_of_le (HF3.out k hk) hu.size) (HJ.out.apart hu (fun k hk => by rw [show k = w.heap.size + 1 from hk]; exact hTB') (HF1.out _ h.fj)), ?_, HF2.out⟩, huw.mono (fun k hk => .inl hk.1)⟩
          have hq := HQX.out
          have hjq : Joins W base (fun k => F' k ∨ X k) bj (N + 1) (J ++ [(eid, id)]) := by
            have hj := HJ.out.apart hu (fun k hk => by rw [show k = w.heap.size + 1 from hk]; exact hTB') (HF1.out _ h.fj)
            obtain ⟨n', D', JL, hn', hm', hl', hr'⟩ := hj
            exact ⟨n', D', JL, hn', hm', hl', hr'.row0 (fun _ hf => .inl hf)⟩
          exact hq.mk_joins huw (fun k hk => .inl (.inl hk.1)) (fun hk => hk.2 rfl) (Nat.le_succ _) (by have := h.jn; simp; omega) (fun k hk => hk.imp (HF1.out k) _root_.id) (fun k hk => hk.elim (fun h1 => (HF2.out k h1).imp .inl _root_.id) (fun h1 => .inl (.inr h1))) (fun k hk => hk.elim (fun h1 => Nat.lt_of_lt_of_le (HF3.out k h1) hu.size) (fun h1 => Nat.lt_of_lt_of_le (hq.fr k (.inr h1)).2 huw.size)) hjq)
        have HR1 : Hid (askA E (k1, k2, k3) = 2) := Lib.hid (by unfold askA; rw [HO.out])
        have HR2 : Hid (askT E (k1, k2, k3) = (0, 0, 0)) := Lib.hid (by unfold askT; rw [HO.out])
        clear hl2 hr hj hf1 hf3 hu3 hu4 hb3 hb4 hg3 hg4 he3 he4 t0_ t1_ t2_ tlt tf_ k0_ k1_ k2_ klt
        go_wp2_with fail
        go_region_held3 (fun w' => w'.cell? ⟨g, 1, none⟩ = some (.map (some bj)) ∧ w'.cell? ⟨w1.heap.size, 0, none⟩ = some (.int .i64 eid)) (go_keep) (refine step_append_run rfl _ _ _ rfl rfl rfl hr3 ?_)
        all_goals
          go_wp2
          refine bodyPost_ret (v := .tuple #[.int .i64 2, kval (0, 0, 0)]) (by simp [results, Try.results15, go_sem, s0_, s1_, s2_, slt]) rfl ⟨by rw [HR1.out, HR2.out], HFIN.out _ (by repeat (first | exact Upd.refl _ _ | refine Upd.alloc ?_ _ | refine Upd.drew ?_ | refine Upd.drewN ?_ _ | refine Upd.put ?_ _ _))⟩
theorem ask_to {base g bk bj N : Nat} {F : Nat → Prop} {E : List En} {J : List J2} {k : K3} {id : Int} (hk : kok k) (hk0 : k.1 ≠ 0) (hid : iok id) (hN : N < 1000) (w : World) (hp : CS w base g bk bj F E J N) :
    Calls Try.prog 15 #[.pointer (some ⟨g, 0, none⟩), kval k, .int .i64 id] w fun e w' => e = .returned (.tuple #[.int .i64 (askA E k), kval (askT E k)]) ∧ (∃ F', CS w' base g bk bj F' (askE E k id) (askJ E J k id) (N + 1) ∧ ∀ x, F' x → F x ∨ w.heap.size ≤ x) ∧ Upd F w w' := by
  have e : (fun k => F k ∨ (fun _ => False) k) = F := by funext k; simp
  refine (ask_off (X := fun _ => False) hk hk0 hid hN w hp (by rw [e]; exact hp)).mono ?_
  rintro e w' ⟨he, ⟨F', h1, _, h3⟩, hu⟩
  exact ⟨he, ⟨F', h1, h3⟩, hu⟩
end Go.Proofs.Ytninaaolbgchpaa
