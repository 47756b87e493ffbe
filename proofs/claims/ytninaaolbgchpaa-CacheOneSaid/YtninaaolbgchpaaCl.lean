/- Close. -/
import Derived.Test.YtninaaolbgchpaaCd
namespace Go.Proofs.Ytninaaolbgchpaa
open Go.RowKit
open Go.Maps (Keyed IsMap Tidy)
set_option linter.unusedVariables false
set_option linter.unusedSimpArgs false

theorem em_shape (EP : List EP2) : ∀ p ∈ em EP, ∃ id q, p.2 = .agg #[.int .i64 id, .pointer q] := by
  intro p hp
  obtain ⟨x, _, rfl⟩ := List.mem_map.1 hp
  exact ⟨x.1.id, x.2, rfl⟩
theorem em_clo (EP : List EP2) (s : Int) : (em EP).filter (fun p => decide (p.1.1 ≠ s)) = em (EP.filter fun p => decide (p.1.k.1 ≠ s)) := by
  unfold em
  rw [List.filter_map]
  rfl
theorem fst_clo (EP : List EP2) (s : Int) : (EP.filter fun p => decide (p.1.k.1 ≠ s)).map Prod.fst = cloE (EP.map Prod.fst) s := by
  unfold cloE
  rw [List.filter_map]
  rfl
theorem clo_le (E : List En) (s : Int) : (cloE E s).length ≤ E.length := List.length_filter_le _ _
theorem close_nil (s : Int) (w : World) : Calls Try.prog 14 #[.pointer none, .int .i64 s] w fun e w' => e = .returned (.int .i64 0) ∧ Upd (fun _ => False) w w' := by
  have HU : Hid (Upd (fun _ => False) w (w.alloc (.cells #[.int .i64 s] 3))) := Lib.hid ((Upd.refl _ w).alloc _)
  go_enter Try.func14, Try.ntmps14
  go_wp2_with fail
  refine (len_nil _).mono ?_
  rintro e_ w1 ⟨rfl, hu⟩
  have HU1 := Lib.hid (HU.out.trans hu (fun _ h => h.elim))
  clear hu
  go_wp2_with fail
  refine (len_nil _).mono ?_
  rintro e_ w2 ⟨rfl, hu⟩
  have HU2 := Lib.hid (HU1.out.trans hu (fun _ h => h.elim))
  clear hu
  go_wp2
  go_ret
  exact ⟨rfl, HU2.out⟩
set_option maxHeartbeats 1000000 in
theorem close_to {base g bk bj N : Nat} {F : Nat → Prop} {E : List En} {J : List J2} (s : Int) (hN : N ≤ 1000) (w : World) (hp : CS w base g bk bj F E J N) :
    Calls Try.prog 14 #[.pointer (some ⟨g, 0, none⟩), .int .i64 s] w fun e w' => e = .returned (.int .i64 ((E.length - (cloE E s).length : Nat) : Int)) ∧ CS w' base g bk bj F (cloE E s) J N ∧ Upd (At bk) w w' := by
  have hu0 := (Upd.refl (fun _ => False) w).alloc (.cells #[.int .i64 s] 3)
  have HP := Lib.hid (hp.upd0 hu0)
  have HU := Lib.hid hu0
  have HSB : Hid (Blk (w.alloc (.cells #[.int .i64 s] 3)) w.heap.size 3 #[.int .i64 s]) := Lib.hid (Blk.new w _ _)
  have HLE : Hid (E.length ≤ 1000) := Lib.hid (Nat.le_trans hp.len_le hN)
  have HCL := Lib.hid (clo_le E s)
  have HBK : Hid (bk < w.heap.size) := Lib.hid hp.klt
  clear hp hu0
  go_enter Try.func14, Try.ntmps14
  go_wp2_with fail
  refine (len_to _ HP.out).mono ?_
  rintro e_ w1 ⟨rfl, hu⟩
  have HP1 := Lib.hid (HP.out.upd0 hu)
  have HU1 := Lib.hid (HU.out.trans hu (fun _ h => h.elim))
  have HSB1 := Lib.hid (HSB.out.upd hu (fun h => h))
  clear hu HP HU HSB
  by_cases hE : E.length = 0
  · obtain rfl := List.eq_nil_of_length_eq_zero hE
    clear hE
    go_wp2_with fail
    refine (len_to _ HP1.out).mono ?_
    rintro e_ w2 ⟨rfl, hu⟩
    have HP2 := Lib.hid (HP1.out.upd0 hu)
    have HU2 : Hid (Upd (At bk) w w2) := Lib.hid ((HU1.out.trans hu (fun _ h => h.elim)).mono (fun _ h => h.elim))
    clear hu
    go_wp2
    go_ret
    exact ⟨rfl, HP2.out, HU2.out⟩
  · have hpos : (0 : Int) < ((E.length : Nat) : Int) := by omega
    clear hE
    obtain ⟨n, D, EP, hn, hm, he, hl, ht⟩ := HP1.out.keys
    have c0 : w1.cell? ⟨g, 0, none⟩ = some (.map (some bk)) := HP1.out.blk.cell 0
    have clt := HP1.out.blk.lt
    have HM := Lib.hid hm
    have HL := Lib.hid hl
    have HT := Lib.hid ht
    have HE := Lib.hid he
    clear hm hl ht he
    go_wp2_with fail
    refine (dfn_to HL.out (em_shape EP) _ HM.out HSB1.out).mono ?_
    rintro e_ w2 ⟨rfl, D', hm2, hl2, hu⟩
    have HP2 : Hid (CS w2 base g bk bj F (cloE E s) J N) := Lib.hid (by
      have h := HP1.out
      have hgb : g ≠ bk := fun e => h.gF (e ▸ h.fk)
      have hF := h.fr _ h.fk
      refine ⟨h.blk.upd hu hgb, h.gb, h.fk, h.fj, fun k hk => ⟨(h.fr k hk).1, Nat.lt_of_lt_of_le (h.fr k hk).2 hu.size⟩, h.kj, h.gF, fun e he => h.ids e (List.mem_filter.1 he).1, h.jn, ⟨n, D', EP.filter (fun p => decide (p.1.k.1 ≠ s)), hn, hm2, by rw [fst_clo, HE.out], by rw [← em_clo]; exact hl2, fun p hp => (HT.out p (List.mem_filter.1 hp).1).upd hu (fun k hk => .inl (by rw [show k = bk from hk]; exact h.fk)) (fun _ hk => .inl hk)⟩, ?_⟩
      exact h.joins.upd hu (fun e => h.kj e.symm) (fun k hk => .inr (.inr hk)) (Mp.ne_own' HM.out) (fun _ hk => hk))
    have HU2 : Hid (Upd (At bk) w w2) := Lib.hid (HU1.out.mono (fun _ h => h.elim) |>.trans hu (fun _ h => .inl h))
    clear hm2 hl2 hu
    go_wp2_with fail
    refine (len_to _ HP2.out).mono ?_
    rintro e_ w3 ⟨rfl, hu⟩
    have HP3 := Lib.hid (HP2.out.upd0 hu)
    have HU3 := Lib.hid (HU2.out.trans hu (fun _ h => h.elim))
    have hsub : IntKind.i64.wrap ((E.length : Int) - ((cloE E s).length : Int)) = ((E.length - (cloE E s).length : Nat) : Int) := by
      have h1 := HCL.out
      have h2 := HLE.out
      rw [Int.ofNat_sub h1, IntKind.wrap_i64]
      omega
    clear hu
    go_wp2
    go_ret
    exact ⟨rfl, HP3.out, HU3.out⟩
end Go.Proofs.Ytninaaolbgchpaa
