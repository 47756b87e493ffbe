/- maps.DeleteFunc at the cache's map. -/
import Derived.Test.YtninaaolbgchpaaCf
import Derived.Deep.LoopGhost
namespace Go.Proofs.Ytninaaolbgchpaa
open Go.RowKit
open Go.Maps (Keyed IsMap Tidy)
set_option linter.unusedVariables false
set_option linter.unusedSimpArgs false

theorem Upd.grown {a b : World} (h : Upd (fun _ => False) a b) : a.grownBy b none := ⟨h.os, h.tape, h.output, h.size, fun i hi _ => h.block i hi (fun h => h)⟩
/-- What is left of a map while it is swept: what is still to come, and what stays. -/
def swept (L : List (K3 × Value)) (s : Int) (left : Lit → Bool) : List (K3 × Value) := L.filter (fun p => left (kkl p.1) || decide (p.1.1 ≠ s))
theorem mat_held {D : DataW Value} {kl : Lit} {v : Value} (h : ∀ zd, D.atKey kl zd = .held v) : mat D kl = some v := by
  unfold mat
  rw [if_pos (Maps.has_true_of_atKey h), h]
theorem same_kkl {x y : K3} (hx : kok x) (hy : kok y) : (kkl x).sameKey (kkl y) = decide (x = y) := by
  by_cases h : x = y
  · subst h
    rw [WideAt.sameKey_self (kklit.key x)]; simp
  · rw [decide_eq_false h]
    cases hs : (kkl x).sameKey (kkl y) with
    | false => rfl
    | true => exact absurd (kklit.inj _ _ hx hy (WideAt.sameKey_eq hs)) h
theorem swept_stays {L : List (K3 × Value)} {s : Int} {left : Lit → Bool} {x : K3} (ho : ∀ p ∈ L, kok p.1) (hx : kok x) (hs : x.1 ≠ s) : swept L s (fun z => left z && !z.sameKey (kkl x)) = swept L s left := by
  unfold swept
  refine List.filter_congr fun p hp => ?_
  simp only
  rw [same_kkl (ho p hp) hx]
  by_cases h : p.1 = x
  · simp [h, hs]
  · simp [h]
theorem swept_goes {L : List (K3 × Value)} {s : Int} {left : Lit → Bool} {x : K3} (ho : ∀ p ∈ L, kok p.1) (hx : kok x) (hs : x.1 = s) : swept L s (fun z => left z && !z.sameKey (kkl x)) = lwo (swept L s left) x := by
  unfold swept lwo
  rw [List.filter_filter]
  refine List.filter_congr fun p hp => ?_
  simp only
  rw [same_kkl (ho p hp) hx]
  by_cases h : p.1 = x
  · simp [h, hs]
  · simp [h]
theorem swept_end {L : List (K3 × Value)} {s : Int} {left : Lit → Bool} (h : ∀ kl, left kl = false) : swept L s left = L.filter (fun p => decide (p.1.1 ≠ s)) := by
  unfold swept
  exact List.filter_congr fun p _ => by rw [h, Bool.false_or]
theorem swept_start {D : DataW Value} {L : List (K3 × Value)} {s : Int} (hl : Lk kkl kok D L) : swept L s (Maps.has D) = L := by
  refine List.filter_eq_self.2 fun p hp => ?_
  have h1 := hl.at_ kklit (hl.2.2 p hp)
  rw [lk_mem hl.2.1 (show (p.1, p.2) ∈ L from hp)] at h1
  rw [has_of_mat h1]
  rfl
set_option maxHeartbeats 4000000 in
set_option maxRecDepth 100000 in
theorem dfn_to {bk n sb : Nat} {D : DataW Value} {L : List (K3 × Value)} {s : Int} (hl : Lk kkl kok D L) (hsh : ∀ p ∈ L, ∃ id q, p.2 = .agg #[.int .i64 id, .pointer q]) (w : World) (hm : Mp w Try.prog 47 bk n D) (hsb : Blk w sb 3 #[.int .i64 s]) :
    Calls Try.prog 23 #[.map (some bk), .func (.func 24) #[] #[.pointer (some ⟨sb, 0, none⟩)]] w fun e w' => e = .returned (.tuple #[]) ∧ ∃ D', Mp w' Try.prog 47 bk n D' ∧ Lk kkl kok D' (L.filter (fun p => decide (p.1.1 ≠ s))) ∧ Upd (At bk) w w' := by
  have HLK := Lib.hid hl
  have HM := Lib.hid hm
  have HSH := Lib.hid hsh
  have HSB := Lib.hid hsb
  have HNE : Hid (bk ≠ sb) := Lib.hid (hm.ne_blk hsb)
  clear hl hm hsh hsb
  go_enter Try.func23, Try.ntmps23
  go_wp2_with (first
    | (at_range; refine wpList_range_own _ rfl _ 58 rfl 47 71 keyK Try.underlying58 hv bk n _ rfl HM.out ?_; intro w0 hrg0 hg0 hs0)
    | go_in)
  go_frame
  have HR0 := Lib.hid hrg0
  have HU0 : Hid (Upd (At bk) w w0) := Lib.hid ((grown_none hg0).mono (fun _ h => h.elim))
  clear hrg0 hg0 hs0
  go_loopw [8] (fun _ wr => ∃ (left : Lit → Bool) (cnt : Nat) (D' : DataW Value), Hid (wr.ranges Try.prog 47 hv bk w.heap.size n D' left cnt) ∧ Hid (Lk kkl kok D' (swept L s left)) ∧ Hid (Upd (At bk) w wr))
    (fun _ wr => wr.rangeLeft bk w.heap.size)
  case atStart => exact ⟨_, _, D, HR0, Lib.hid (by rw [swept_start HLK.out]; exact HLK.out), HU0⟩
  case round =>
    obtain ⟨left, cnt, D', HR, HK, HU⟩ := hrel
    go_wp2_with (first
      | (at_next; refine wpList_next_ranges _ rfl _ rfl 47 keyK hv kval id (fun key kl hk => by obtain ⟨x, hx, _⟩ := kkey_inv hk; exact ⟨x, hx⟩) (fun v _ _ => ⟨v, rfl⟩) bk w.heap.size n _ _ _ rfl HR.out ?_ ?_)
      | go_in)
    · intro hc0 hl0
      go_wp2
      go_end0
      exact ⟨rfl, D', HR.out.owns, by rw [← swept_end hl0]; exact HK.out, HU.out⟩
    · intro x1 x2 x3 c kl yd yp w1 cnt1 hkey hlx hv_ hat hrg1 hlt hg1 hs1 hen
      obtain ⟨x', ex, rfl, hx'⟩ := kkey_inv hkey
      obtain rfl : (x1, x2, x3) = x' := by
        obtain ⟨a, b, d⟩ := x'
        simp at ex
        rw [ex.1, ex.2.1, ex.2.2]
      obtain rfl : DataW.held c = yd := by
        have : hv c = some (yd, yp) := hv_
        unfold hv at this
        injection this with this
        injection this
      have hat2 := mat_held hat
      have hmem : ((x1, x2, x3), c) ∈ swept L s left := lk_some (by rw [← HK.out.at_ kklit hx']; exact hat2)
      obtain ⟨id_, q, hcq⟩ := HSH.out _ (List.mem_filter.1 hmem).1
      simp only at hcq
      subst hcq
      have HX := Lib.hid hx'
      have HR1 := Lib.hid hrg1
      have HLT := Lib.hid hlt
      have HU1 : Hid (Upd (At bk) w w1) := Lib.hid (HU.out.trans (Upd.of_grown hg1) (fun i hi => .inr (by injection hi with hi; omega)))
      clear hkey hv_ hat hat2 hmem hrg1 hlt hg1 hs1 hlx ex hx'
      go_wp2_with fail
      refine Calls.gen (fun W => Upd (fun _ => False) w1 W ∧ Blk W w1.heap.size 47 #[.int .i64 x1, .int .i64 x2, .int .i64 x3]) ⟨(by repeat (first | exact Upd.refl _ _ | refine Upd.alloc ?_ _ | refine Upd.drew ?_ | refine Upd.drewN ?_ _ | refine Upd.put ?_ _ _)), (Blk.new w1 _ _).alloc _⟩ (fun W hW => ?_)
      obtain ⟨hu2, hb2⟩ := hW
      have hsb2 := (HSB.out.upd HU1.out (fun h => HNE.out h.symm)).upd hu2 (fun h => h)
      refine (del_to s (x1, x2, x3) _ id_ q rfl W sb (hsb2.cell 0) hsb2.lt).mono ?_
      rintro e_ w2 ⟨rfl, hu⟩
      have hu12 := hu2.trans hu (fun _ h => h.elim)
      have HR2 := Lib.hid (HR1.out.kept hu12.grown (by simp) (by simp))
      have HU2 : Hid (Upd (At bk) w w2) := Lib.hid (HU1.out.trans hu12 (fun _ h => h.elim))
      have hbx := hb2.upd hu (fun h => h)
      have k0_ : w2.cell? ⟨w1.heap.size, 0, none⟩ = some (.int .i64 x1) := hbx.cell 0
      have k1_ : w2.cell? ⟨w1.heap.size, 1, none⟩ = some (.int .i64 x2) := hbx.cell 1
      have k2_ : w2.cell? ⟨w1.heap.size, 2, none⟩ = some (.int .i64 x3) := hbx.cell 2
      have HOK : Hid (∀ p ∈ L, kok p.1) := Lib.hid HLK.out.2.2
      clear hu12 hu hu2 hb2 hsb2 hbx HR1 HU1 hen
      by_cases hs : x1 = s
      · rw [decide_eq_true hs]
        have HKK := Lib.hid (swept_goes (left := left) HOK.out HX.out hs)
        clear hs
        go_wp2_with (first
          | (at_delete; go_loud (refine wpList_delete_ranges _ rfl _ _ 58 47 rfl 71 keyK Try.underlying58 hv bk w.heap.size n _ _ _ rfl HR2.out _ _ rfl (kkey HX.out) ?_; intro w3 cnt3 hrg3 hle hturn; go_frame))
          | go_in)
        rw [Maps.strike_twice] at hrg3
        have hu3 := upd_turned hturn
        go_roundw
        case rel => exact ⟨_, cnt3, _, Lib.hid hrg3, Lib.hid (by rw [HKK.out]; exact HK.out.del kklit HX.out), Lib.hid (HU2.out.trans hu3 (fun i hi => .inl hi))⟩
        case measure => rw [hrg3.left_eq, HR.out.left_eq]; have := HLT.out; omega
      · rw [decide_eq_false hs]
        have HKK := Lib.hid (swept_stays (left := left) HOK.out HX.out hs)
        clear hs
        go_wp2
        go_roundw
        case rel => exact ⟨_, cnt1, _, HR2, Lib.hid (by rw [HKK.out]; exact HK.out), HU2⟩
        case measure => rw [HR2.out.left_eq, HR.out.left_eq]; exact HLT.out
end Go.Proofs.Ytninaaolbgchpaa
