/- Settle. -/
import Derived.Test.YtninaaolbgchpaaSj
import Derived.Test.YtninaaolbgchpaaOw
namespace Go.Proofs.Ytninaaolbgchpaa
open Go.RowKit
open Go.Maps (Keyed IsMap Tidy)
set_option linter.unusedVariables false
set_option linter.unusedSimpArgs false

section
variable {P : Program} (w : World) {ops : Array Oper} {rest : List Oper} {o : Oper} {a : Act} {Q : Exit → Act → World → Prop}
theorem wpList_put_ranges (hg : o.guard = none) (m x v : Operand) (t : TypeId) (hop : o.op = Op.mapUpdate t m x v) (k e : TypeId) (K : Keyed P k) (ht : P.underlying t = some (.map k e)) (b r n : Nat) (D : DataW Value) (left : Lit → Bool) (cnt : Nat)
    (hm : a.eval m = .map (some b)) (h : w.ranges P k hv b r n D left cnt) (hn : n < maxLen) (key val : Value) (kl : Lit) (hx : a.eval x = key) (hv_ : a.eval v = val) (hkey : keyOf P k key = some kl) (hin : Maps.has D kl = true)
    (hK : ∀ w', w'.ranges P k hv b r n (D.put kl (.held val)) left cnt → Upd (At b) w w' → wpList P ops Q rest (a.put o.dst undef) w') : wpList P ops Q (o :: rest) a w := by
  refine wpList_plain hg fun K' hK' => ?_
  obtain ⟨w', hrun, r1, r2⟩ := ranges_store h K ht hn hkey (show hv val = some (.held val, []) from rfl) hin
  unfold Oper.wp
  simp [execOp, hop, hm, hx, hv_, hrun, Result.andThen]
  exact hK' _ _ (hK w' r1 (upd_turned r2))
end
/-- The entries while they are settled: what is still to come is as it was. -/
def stl (EP : List EP2) (id : Int) (t : K3) (tb : Nat) (left : Lit → Bool) : List EP2 := EP.map fun p => if left (kkl p.1.k) = true then p else if p.1.id = id then ({ p.1 with t := some t }, some ⟨tb, 0, none⟩) else p
section
variable {EP : List EP2} {id : Int} {t : K3} {tb : Nat} {left : Lit → Bool} {x : K3}
theorem em_key (EP : List EP2) : (em EP).map Prod.fst = EP.map fun p => p.1.k := by unfold em; rw [List.map_map]; rfl
theorem stl_key : (em (stl EP id t tb left)).map Prod.fst = EP.map fun p => p.1.k := by
  rw [em_key]
  unfold stl
  rw [List.map_map]
  refine List.map_congr_left fun p _ => ?_
  simp only [Function.comp]
  split
  · rfl
  · split <;> rfl
theorem stl_start {D : DataW Value} (hl : Lk kkl kok D (em EP)) : stl EP id t tb (Maps.has D) = EP := by
  conv => rhs; rw [← List.map_id EP]
  refine List.map_congr_left fun p hp => ?_
  have hm : (p.1.k, ev p.1 p.2) ∈ em EP := List.mem_map.2 ⟨p, hp, rfl⟩
  have h1 := hl.at_ kklit (hl.2.2 _ hm)
  rw [lk_mem hl.2.1 hm] at h1
  rw [if_pos (has_of_mat h1)]
  rfl
theorem stl_end (h : ∀ kl, left kl = false) : (stl EP id t tb left).map Prod.fst = setE (EP.map Prod.fst) id t := by
  unfold stl setE
  rw [List.map_map, List.map_map]
  refine List.map_congr_left fun p _ => ?_
  simp only [Function.comp, h]
  by_cases hp : p.1.id = id <;> simp [hp]
/-- An entry that is still to come: what is known of it. -/
theorem stl_mem {v : Value} (ho : ∀ p ∈ EP, kok p.1.k) (hx : left (kkl x) = true) (hm : (x, v) ∈ em (stl EP id t tb left)) : ∃ p ∈ EP, p.1.k = x ∧ v = ev p.1 p.2 := by
  obtain ⟨q, hq, he⟩ := List.mem_map.1 hm
  obtain ⟨p, hp, rfl⟩ := List.mem_map.1 hq
  injection he with h1 h2
  have hk : p.1.k = x := by
    rw [← h1]
    split
    · rfl
    · split <;> rfl
  rw [hk, if_pos hx] at h2
  exact ⟨p, hp, hk, h2.symm⟩
theorem stl_stays (ho : ∀ p ∈ EP, kok p.1.k) (hx : kok x) (hn : ∀ p ∈ EP, p.1.k = x → p.1.id ≠ id) : stl EP id t tb (fun z => left z && !z.sameKey (kkl x)) = stl EP id t tb left := by
  unfold stl
  refine List.map_congr_left fun p hp => ?_
  simp only
  rw [same_kkl (ho p hp) hx]
  by_cases h : p.1.k = x
  · simp [h, hn p hp h]
  · simp [h]
theorem stl_put (ho : ∀ p ∈ EP, kok p.1.k) (hx : kok x) (hlx : left (kkl x) = true) (hn : ∀ p ∈ EP, p.1.k = x → p.1.id = id) : em (stl EP id t tb (fun z => left z && !z.sameKey (kkl x))) = (em (stl EP id t tb left)).map fun p => if p.1 = x then (x, .agg #[.int .i64 id, .pointer (some ⟨tb, 0, none⟩)]) else p := by
  unfold em stl
  rw [List.map_map, List.map_map, List.map_map]
  refine List.map_congr_left fun p hp => ?_
  simp only [Function.comp]
  rw [same_kkl (ho p hp) hx]
  by_cases h : p.1.k = x
  · have := hn p hp h
    simp [h, this, hlx, ev]
  · cases hl : left (kkl p.1.k)
    · by_cases hi : p.1.id = id <;> simp [h, hi]
    · simp [h]
theorem stl_tells {w : World} {base : Nat} {F : Nat → Prop} (h : ∀ p ∈ EP, Tells w base F p.1.t p.2) (hb : Blk w tb 44 (kcs t)) (hge : base ≤ tb) (hF : ¬ F tb) : ∀ p ∈ stl EP id t tb left, Tells w base F p.1.t p.2 := by
  intro p hp
  obtain ⟨q, hq, rfl⟩ := List.mem_map.1 hp
  split
  · exact h q hq
  · split
    · exact ⟨tb, rfl, hb, hge, hF⟩
    · exact h q hq
end
theorem settle_nil (id : Int) (t : K3) (w : World) : Calls Try.prog 17 #[.pointer none, .int .i64 id, kval t] w fun e w' => e = .returned (.slice none 0 0) ∧ Upd (fun _ => False) w w' := by
  go_enter Try.func17, Try.ntmps17
  go_wp2
  go_ret
  exact ⟨rfl, (by repeat (first | exact Upd.refl _ _ | refine Upd.alloc ?_ _ | refine Upd.drew ?_ | refine Upd.drewN ?_ _ | refine Upd.put ?_ _ _))⟩
set_option maxHeartbeats 4000000 in
set_option maxRecDepth 100000 in
theorem settle_to {base g bk bj N : Nat} {F : Nat → Prop} {E : List En} {J : List J2} {id : Int} {t : K3} (hid : iok id) (hN : N ≤ 1000) (w : World) (hp : CS w base g bk bj F E J N) :
    Calls Try.prog 17 #[.pointer (some ⟨g, 0, none⟩), .int .i64 id, kval t] w fun e w' => ∃ A c F', e = .returned (.slice A (setL J id).length c) ∧ Sl w' A (setL J id).length c (nums (setL J id)) ∧ (∀ b o, A = some ⟨b, o, none⟩ → ¬ F' b) ∧ (∀ k, F' k → F k) ∧ CS w' base g bk bj F' (setE E id t) (setJ J id) N ∧ Upd F w w' := by
  have hu0 := (Upd.refl (fun _ => False) w).alloc (.cells (kcs t) 44)
  have HP := Lib.hid (hp.upd0 hu0)
  have HU := Lib.hid hu0
  have HTB : Hid (Blk (w.alloc (.cells (kcs t) 44)) w.heap.size 44 (kcs t)) := Lib.hid (Blk.new w _ _)
  have HFR := Lib.hid hp.fr
  have HFK := Lib.hid hp.fk
  have HFJ := Lib.hid hp.fj
  have HNK : Hid (¬ F w.heap.size) := Lib.hid (fun h => by have := (hp.fr _ h).2; omega)
  have HBS : Hid (base ≤ w.heap.size) := Lib.hid (by have := hp.fr _ hp.fk; omega)
  obtain ⟨n, D, EP, hn, hm, he, hl, ht⟩ := (hp.upd0 hu0).keys
  have HM := Lib.hid hm
  have HL := Lib.hid hl
  have HT := Lib.hid ht
  have HE := Lib.hid he
  have HID := Lib.hid hid
  have HKO : Hid (∀ p ∈ EP, kok p.1.k) := Lib.hid (fun p hp => hl.2.2 (p.1.k, ev p.1 p.2) (List.mem_map.2 ⟨p, hp, rfl⟩))
  have c0 : (w.alloc (.cells (kcs t) 44)).cell? ⟨g, 0, none⟩ = some (.map (some bk)) := HP.out.blk.cell 0
  have clt : g < (w.alloc (.cells (kcs t) 44)).heap.size := HP.out.blk.lt
  have hn9 : n < maxLen := by unfold maxLen; omega
  clear hu0 hp hm hl ht he hid
  go_enter Try.func17, Try.ntmps17
  go_wp2_with (first
    | (at_range; go_loud (refine wpList_range_own _ rfl _ 58 rfl 47 71 keyK Try.underlying58 hv bk n _ rfl HM.out ?_; intro w0 hrg0 hg0 hs0))
    | go_in)
  go_frame
  have HR0 := Lib.hid hrg0
  have HU0 : Hid (Upd (At bk) (w.alloc (.cells (kcs t) 44)) w0) := Lib.hid ((grown_none hg0).mono (fun _ h => h.elim))
  clear hrg0 hg0 hs0 c0 clt
  generalize w.alloc (.cells (kcs t) 44) = w1 at *
  go_loopw [17] (fun _ wr => ∃ (left : Lit → Bool) (cnt : Nat) (D' : DataW Value), Hid (wr.ranges Try.prog 47 hv bk w1.heap.size n D' left cnt) ∧ Hid (Lk kkl kok D' (em (stl EP id t w.heap.size left))) ∧ Hid (Upd (At bk) w1 wr))
    (fun _ wr => wr.rangeLeft bk w1.heap.size)
  case atStart => exact ⟨_, _, D, HR0, Lib.hid (by rw [stl_start HL.out]; exact HL.out), HU0⟩
  case round =>
    obtain ⟨left, cnt, D', HR, HK, HU2⟩ := hrel
    clear HR0 HU0
    go_wp2_with (first
      | (at_next; refine wpList_next_ranges _ rfl _ rfl 47 keyK hv kval _root_.id (fun key kl hk => by obtain ⟨x, hx, _⟩ := kkey_inv hk; exact ⟨x, hx⟩) (fun v _ _ => ⟨v, rfl⟩) bk w1.heap.size n _ _ _ rfl HR.out ?_ ?_)
      | go_in)
    · intro hc0 hl0
      have HC : Hid (CS wr base g bk bj F (setE E id t) J N) := Lib.hid (by
        have h := HP.out
        have hu := HU2.out
        have hgb : g ≠ bk := fun e => h.gF (e ▸ h.fk)
        refine ⟨h.blk.upd hu hgb, h.gb, h.fk, h.fj, fun k hk => ⟨(h.fr k hk).1, Nat.lt_of_lt_of_le (h.fr k hk).2 hu.size⟩, h.kj, h.gF, fun e he => ?_, h.jn, ⟨n, D', stl EP id t w.heap.size left, hn, HR.out.owns, by rw [stl_end hl0, HE.out], HK.out, stl_tells (fun p hp => (HT.out p hp).upd hu (fun k hk => .inl (by rw [show k = bk from hk]; exact h.fk)) (fun _ hk => .inl hk)) (HTB.out.upd hu (fun e => HNK.out ((show w.heap.size = bk from e) ▸ h.fk))) HBS.out HNK.out⟩, ?_⟩
        · obtain ⟨x, hx, rfl⟩ := List.mem_map.1 he
          split
          · rename_i hi
            show iok x.id
            rw [hi]
            exact HID.out
          · exact h.ids x hx
        · exact h.joins.upd hu (fun e => h.kj e.symm) (fun k hk => .inr (.inr hk)) (Mp.ne_own' HM.out) (fun _ hk => hk))
      have c1 : wr.cell? ⟨g, 1, none⟩ = some (.map (some bj)) := HC.out.blk.cell 1
      have clt := HC.out.blk.lt
      obtain ⟨A, c, F', w9, hlook, hdel, hsl, hA, hF, hcs, hu9⟩ := HC.out.settle HID.out 0
      have HSL := Lib.hid hsl
      have HA := Lib.hid hA
      have HF := Lib.hid hF
      have HCS := Lib.hid hcs
      have HU9 : Hid (Upd F w w9) := Lib.hid (((HU.out.mono (fun _ h => h.elim)).trans HU2.out (fun i hi => .inl (by rw [show i = bk from hi]; exact HFK.out))).trans hu9 (fun i hi => .inl (by rw [show i = bj from hi]; exact HFJ.out)))
      clear hsl hA hF hcs hu9
      go_wp2
      go_ret
      exact ⟨A, c, F', rfl, HSL.out, HA.out, HF.out, HCS.out, HU9.out⟩
    · intro x1 x2 x3 c kl yd yp w2 cnt1 hkey hlx hv_ hat hrg1 hlt hg1 hs1 hen
      obtain ⟨x', ex, rfl, hx'⟩ := kkey_inv hkey
      obtain rfl : (x1, x2, x3) = x' := by
        obtain ⟨a, b, d⟩ := x'
        simp at ex
        rw [ex.1, ex.2.1, ex.2.2]
      obtain rfl : DataW.held c = yd := by
        have : hv c = some (yd, yp) := hv_
        unfold hv at this
        injection this with this
        injection this
      have hat2 := mat_held hat
      have hhas := has_of_mat hat2
      have hmem : ((x1, x2, x3), c) ∈ em (stl EP id t w.heap.size left) := lk_some (by rw [← HK.out.at_ kklit hx']; exact hat2)
      obtain ⟨p, hp, hpk, hcq⟩ := stl_mem HKO.out hlx hmem
      have hall : ∀ q ∈ EP, q.1.k = (x1, x2, x3) → q.1.id = p.1.id := fun q hq hqk => by
        have h1 : (q.1.k, ev q.1 q.2) ∈ em EP := List.mem_map.2 ⟨q, hq, rfl⟩
        have h2 : (p.1.k, ev p.1 p.2) ∈ em EP := List.mem_map.2 ⟨p, hp, rfl⟩
        have e1 := lk_mem HL.out.2.1 h1
        have e2 := lk_mem HL.out.2.1 h2
        rw [hqk, ← hpk, e2] at e1
        injection e1 with e1
        unfold ev at e1
        injection e1 with e1
        simp at e1
        exact e1.1.symm
      obtain ⟨⟨pk, id_, pt⟩, q⟩ := p
      simp only at hpk hcq hall
      unfold ev at hcq
      simp only at hcq
      subst hcq
      have HX := Lib.hid hx'
      have HR1 := Lib.hid hrg1
      have HLT := Lib.hid hlt
      have HLX := Lib.hid hlx
      have HHAS := Lib.hid hhas
      have HALL := Lib.hid hall
      have HUx : Hid (Upd (At bk) w1 w2) := Lib.hid (HU2.out.trans (Upd.of_grown hg1) (fun i hi => .inr (by injection hi with hi; omega)))
      clear hkey hv_ hat hat2 hmem hrg1 hlt hg1 hs1 hlx ex hx' hp hpk hhas hall
      by_cases hq : id_ = id
      · subst hq
        have HKK := Lib.hid (stl_put (left := left) (t := t) (tb := w.heap.size) HKO.out HX.out HLX.out HALL.out)
        have HMEM : Hid ((x1, x2, x3) ∈ (em (stl EP id_ t w.heap.size left)).map Prod.fst) := Lib.hid (by
          have := HHAS.out
          have h1 := HK.out.at_ kklit HX.out
          cases hc : lk (em (stl EP id_ t w.heap.size left)) (x1, x2, x3) with
          | none =>
            rw [hc] at h1
            exfalso
            have h2 := Mp.has_iff (show Mp wr Try.prog 47 bk n D' from HR.out.owns) keyK (kkey HX.out)
            rw [this, h1] at h2
            cases h2
          | some v => exact List.mem_map.2 ⟨_, lk_some hc, rfl⟩)
        go_wp2_with fail
        refine Code.gen (fun W => Upd (fun _ => False) w2 W ∧ Blk W w2.heap.size 47 #[.int .i64 x1, .int .i64 x2, .int .i64 x3]) ⟨(by repeat (first | exact Upd.refl _ _ | refine Upd.alloc ?_ _ | refine Upd.drew ?_ | refine Upd.drewN ?_ _ | refine Upd.put ?_ _ _)), (Blk.new w2 _ _).alloc _⟩ (fun W hW => ?_)
        obtain ⟨hu3, hb3⟩ := hW
        have HRW := Lib.hid (HR1.out.kept hu3.grown (by simp) (by simp))
        have HRD : Hid ((W.drew).ranges Try.prog 47 hv bk w1.heap.size n D' (fun z => left z && !z.sameKey (kkl (x1, x2, x3))) cnt1) := Lib.hid HRW.out
        have HUW : Hid (Upd (At bk) w1 W) := Lib.hid (HUx.out.trans hu3 (fun _ h => h.elim))
        have hblk := HP.out.blk.upd HUW.out (fun e => HP.out.gF ((show g = bk from e) ▸ HFK.out))
        have c0 : W.cell? ⟨g, 0, none⟩ = some (.map (some bk)) := hblk.cell 0
        have clt := hblk.lt
        have k0_ : W.cell? ⟨w2.heap.size, 0, none⟩ = some (.int .i64 x1) := hb3.cell 0
        have k1_ : W.cell? ⟨w2.heap.size, 1, none⟩ = some (.int .i64 x2) := hb3.cell 1
        have k2_ : W.cell? ⟨w2.heap.size, 2, none⟩ = some (.int .i64 x3) := hb3.cell 2
        have klt := hb3.lt
        clear hu3 hb3 hblk hen HR1 HUx
        go_still_tail 7, (by kernel_rfl)
        change wpList _ _ _ _ _ W.drew
        go_wp2_with (at_mapUpdate; go_loud (refine wpList_put_ranges _ rfl _ _ _ 58 rfl 47 71 keyK Try.underlying58 bk w1.heap.size n _ _ _ rfl HRD.out hn9 (kval (x1, x2, x3)) (.agg #[.int .i64 id_, .pointer (some ⟨w.heap.size, 0, none⟩)]) (kkl (x1, x2, x3)) rfl rfl (kkey HX.out) HHAS.out ?_; intro w3 hrg3 hu3; go_frame))
        go_roundw
        case rel => exact ⟨_, cnt1, _, Lib.hid hrg3, Lib.hid (by rw [HKK.out]; exact (HK.out.put kklit HX.out _).perm (lput_perm _ HK.out.2.1 HMEM.out)), Lib.hid (HUW.out.drew.trans hu3 (fun i hi => .inl hi))⟩
        case measure => rw [hrg3.left_eq, HR.out.left_eq]; exact HLT.out
      · have HNQ := Lib.hid hq
        have HKK := Lib.hid (stl_stays (left := left) (t := t) (tb := w.heap.size) HKO.out HX.out (fun q hq hk e => HNQ.out ((HALL.out q hq hk).symm.trans e)))
        go_wp2
        have HRW := HR1.out.kept (w' := (w2.alloc (.cells #[.int .i64 x1, .int .i64 x2, .int .i64 x3] 47)).alloc (.cells #[.int .i64 id_, .pointer q] 71)) (Upd.grown (by repeat (first | exact Upd.refl _ _ | refine Upd.alloc ?_ _ | refine Upd.drew ?_ | refine Upd.drewN ?_ _ | refine Upd.put ?_ _ _))) (by simp) (by simp)
        exact ⟨⟨_, cnt1, _, Lib.hid HRW, Lib.hid (by rw [HKK.out]; exact HK.out), Lib.hid (HUx.out.trans (S' := fun _ => False) (by repeat (first | exact Upd.refl _ _ | refine Upd.alloc ?_ _ | refine Upd.drew ?_ | refine Upd.drewN ?_ _ | refine Upd.put ?_ _ _)) (fun _ h => h.elim))⟩, by rw [HRW.left_eq, HR.out.left_eq]; exact HLT.out⟩
end Go.Proofs.Ytninaaolbgchpaa
