/- The document's cache: its entries in memory; Close. -/
import Derived.Test.YtninaaolbgchpaaCj
import Derived.Deep.CutBlock
import Derived.Deep.CutRange
namespace Go.Proofs.Ytninaaolbgchpaa
open Go.RowKit
open Go.Maps (Keyed IsMap Tidy)
set_option linter.unusedVariables false
set_option linter.unusedSimpArgs false

/-- What it was told, or nothing. -/
def tv (t : Option K3) : K3 := t.getD (0, 0, 0)
def e8 (e : En) : List Value := [.int .i64 e.k.1, .int .i64 e.k.2.1, .int .i64 e.k.2.2, .int .i64 e.id, .bool e.t.isSome, .int .i64 (tv e.t).1, .int .i64 (tv e.t).2.1, .int .i64 (tv e.t).2.2]
theorem e8_len (e : En) : (e8 e).length = 8 := rfl
theorem e8_one (l : List En) : ∀ u ∈ fl e8 l, u.oneCell' = true := by
  intro u hu
  obtain ⟨x, _, hx⟩ := fl_mem hu
  simp [e8] at hx
  rcases hx with rfl | rfl | rfl | rfl | rfl | rfl | rfl | rfl <;> rfl
theorem prs_one (ms : List (Int × Int)) : ∀ u ∈ prs ms, u.oneCell' = true := by
  intro u hu
  obtain ⟨x, _, hx⟩ := List.mem_flatMap.1 hu
  simp at hx
  rcases hx with rfl | rfl <;> rfl
theorem infoE : (Try.prog.info? 41).map (fun i => (i.zero, i.size, i.bytes)) = some (some (.agg #[.int .i64 0, .int .i64 0, .int .i64 0, .int .i64 0, .bool false, .int .i64 0, .int .i64 0, .int .i64 0]), 8, 64) := by kernel_rfl
theorem infoP : (Try.prog.info? 75).map (fun i => (i.zero, i.size, i.bytes)) = some (some (.agg #[.int .i64 0, .int .i64 0]), 2, 16) := by kernel_rfl
/-- An entry of a slice: its cells. -/
theorem Sl.en {w : World} {A : Option Addr} {n cap : Nat} {l : List En} (hs : Sl w A n cap (fl e8 l)) {i : Nat} {e : En} (h : l[i]? = some e) : ∃ b o, A = some ⟨b, o, none⟩ ∧ b < w.heap.size ∧
    w.cell? ⟨b, o + i * 8, none⟩ = some (.int .i64 e.k.1) ∧ w.cell? ⟨b, o + i * 8 + 1, none⟩ = some (.int .i64 e.k.2.1) ∧ w.cell? ⟨b, o + i * 8 + 2, none⟩ = some (.int .i64 e.k.2.2) ∧ w.cell? ⟨b, o + i * 8 + 3, none⟩ = some (.int .i64 e.id) ∧
    w.cell? ⟨b, o + i * 8 + 4, none⟩ = some (.bool e.t.isSome) ∧ w.cell? ⟨b, o + i * 8 + 5, none⟩ = some (.int .i64 (tv e.t).1) ∧ w.cell? ⟨b, o + i * 8 + 6, none⟩ = some (.int .i64 (tv e.t).2.1) ∧ w.cell? ⟨b, o + i * 8 + 7, none⟩ = some (.int .i64 (tv e.t).2.2) := by
  obtain ⟨b, o, hA, hlt, hc⟩ := hs.row e8_len (by decide) h
  exact ⟨b, o, hA, hlt, hc 0 _ rfl, hc 1 _ rfl, hc 2 _ rfl, hc 3 _ rfl, hc 4 _ rfl, hc 5 _ rfl, hc 6 _ rfl, hc 7 _ rfl⟩
theorem Sl.newc (w : World) (cs : Array Value) (t : TypeId) (n : Nat) (hn : n ≤ maxLen) : Sl (w.alloc (.cells cs t)) (some ⟨w.heap.size, 0, none⟩) n n cs.toList :=
  Sl.of_blk (Blk.new w cs t) (Nat.le_refl _) hn (fun j u hu => by simpa using hu)
theorem clo_take {E : List En} {s : Int} {k : Nat} {e : En} (h : E[k]? = some e) : cloE (E.take (k + 1)) s = if e.k.1 = s then cloE (E.take k) s else cloE (E.take k) s ++ [e] := by
  unfold cloE
  rw [take_snoc h, List.filter_append]
  by_cases hc : e.k.1 = s
  · simp [hc]
  · simp [hc]
section
variable {F : Nat → Prop} {A B : Option Addr} {n m c d : Nat} {E : List En} {J : List J2}
set_option maxHeartbeats 4000000 in
set_option maxRecDepth 100000 in
theorem rclose_to (s : Int) (hl : E.length = n) (hn : n ≤ 1000) (w : World) (hF : ∀ k, F k → k < w.heap.size) (hA : Kp w F A n c (fl e8 E)) (hB : Kp w F B m d (prs J)) :
    Calls Try.prog 22 #[.agg #[.slice A n c, .slice B m d], .int .i64 s] w fun e w' => ∃ A' c', e = .returned (.tuple #[.agg #[.slice A' (cloE E s).length c', .slice B m d], .int .i64 ((E.length : Int) - ((cloE E s).length : Int))]) ∧ Kp w' F A' (cloE E s).length c' (fl e8 (cloE E s)) ∧ Kp w' F B m d (prs J) ∧ Upd (fun _ => False) w w' := by
  obtain ⟨i0_, hj, hz0, hz1, hz2⟩ := info_parts infoE
  have HA := Lib.hid hA
  have HB := Lib.hid hB
  have HF := Lib.hid hF
  have HL := Lib.hid hl
  have HCL := Lib.hid (clo_le E s)
  clear hA hB hF hl
  go_enter Try.func22, Try.ntmps22
  go_upto_region 2 with fail
  refine Code.gen (fun W => Upd (fun _ => False) w W ∧ Blk W (w.heap.size) 29 #[.slice A n c, .slice B m d] ∧ Blk W (w.heap.size + 1) 29 #[.slice none 0 0, .slice none 0 0] ∧ Blk W (w.heap.size + 1 + 1) 29 #[.slice none 0 0, .slice B m d]) ⟨(by repeat (first | exact Upd.refl _ _ | refine Upd.alloc ?_ _ | refine Upd.drew ?_ | refine Upd.drewN ?_ _ | refine Upd.put ?_ _ _)), ((Blk.new w _ _).alloc _).alloc _, (Blk.new1 w _ _ _).alloc _, Blk.new2 w _ _ _ _⟩ (fun w1 hW => ?_)
  obtain ⟨hu1, hb1, hb2, hb3⟩ := hW
  have HU1 := Lib.hid hu1
  have HX1 := Lib.hid hb1
  have HR1 := Lib.hid hb2
  have HO1 := Lib.hid hb3
  have HB1 : Hid (w.heap.size + 1 + 1 < w1.heap.size) := Lib.hid hb3.lt
  clear hu1 hb1 hb2 hb3
  go_wp2_with fail
  go_loopw [7] (fun iv wr => ∃ (k : Nat) (v : Value), k ≤ n ∧ iv = .int .i64 k ∧ Hid (wr.ownsRow w1.heap.size 41 8 v (cloE (E.take k) s).length (fl e8 (cloE (E.take k) s))) ∧ Hid (Blk wr (w.heap.size) 29 #[.slice A n c, .slice B m d]) ∧ Hid (Blk wr (w.heap.size + 1) 29 #[.slice none 0 0, .slice none 0 0]) ∧ Hid (Blk wr (w.heap.size + 1 + 1) 29 #[v, .slice B m d]) ∧ Hid (w1.heap.size ≤ wr.heap.size) ∧ Hid (Upd (fun _ => False) w wr)) (fun iv _ => n - (intOf iv).toNat)
  case atStart => exact ⟨0, _, Nat.zero_le _, rfl, Lib.hid (by simpa [cloE, fl] using own_nil w1 w1.heap.size 41 8), HX1, HR1, HO1, Lib.hid (Nat.le_refl _), HU1⟩
  case round =>
    obtain ⟨k, v, hk, rfl, HV, HX, HR, HO, HW, HU⟩ := hrel
    have i0 : (0 : Int) ≤ (k : Int) := Int.natCast_nonneg _
    have x0_ : wr.cell? ⟨w.heap.size, 0, none⟩ = some (.slice A n c) := HX.out.cell 0
    have xl := HX.out.lt
    by_cases hkn : k < n
    · obtain ⟨x, hx⟩ : ∃ x, E[k]? = some x := ⟨E[k]'(by rw [HL.out]; exact hkn), List.getElem?_eq_getElem _⟩
      have i1 : (k : Int) < (n : Int) := by omega
      obtain ⟨b, o, hA', hb, c0, c1, c2, c3, c4, c5, c6, c7⟩ := HA.out.sl.en hx
      have HLT := Lib.hid hb
      have r0 := Lib.hid c0
      have r1 := Lib.hid c1
      have r2 := Lib.hid c2
      have r3 := Lib.hid c3
      have r4 := Lib.hid c4
      have r5 := Lib.hid c5
      have r6 := Lib.hid c6
      have r7 := Lib.hid c7
      clear hb c0 c1 c2 c3 c4 c5 c6 c7
      have HT := Lib.hid (clo_take (s := s) hx)
      clear hx
      subst hA'
      have g0 : wr.cell? ⟨b, o + k * 8, none⟩ = some (.int .i64 x.k.1) := (HU.out.cellq (p := ⟨b, o + k * 8, none⟩) HLT.out (fun h => h)).trans r0.out
      have g1 : wr.cell? ⟨b, o + k * 8 + 1, none⟩ = some (.int .i64 x.k.2.1) := (HU.out.cellq (p := ⟨b, o + k * 8 + 1, none⟩) HLT.out (fun h => h)).trans r1.out
      have g2 : wr.cell? ⟨b, o + k * 8 + 2, none⟩ = some (.int .i64 x.k.2.2) := (HU.out.cellq (p := ⟨b, o + k * 8 + 2, none⟩) HLT.out (fun h => h)).trans r2.out
      have g3 : wr.cell? ⟨b, o + k * 8 + 3, none⟩ = some (.int .i64 x.id) := (HU.out.cellq (p := ⟨b, o + k * 8 + 3, none⟩) HLT.out (fun h => h)).trans r3.out
      have g4 : wr.cell? ⟨b, o + k * 8 + 4, none⟩ = some (.bool x.t.isSome) := (HU.out.cellq (p := ⟨b, o + k * 8 + 4, none⟩) HLT.out (fun h => h)).trans r4.out
      have g5 : wr.cell? ⟨b, o + k * 8 + 5, none⟩ = some (.int .i64 (tv x.t).1) := (HU.out.cellq (p := ⟨b, o + k * 8 + 5, none⟩) HLT.out (fun h => h)).trans r5.out
      have g6 : wr.cell? ⟨b, o + k * 8 + 6, none⟩ = some (.int .i64 (tv x.t).2.1) := (HU.out.cellq (p := ⟨b, o + k * 8 + 6, none⟩) HLT.out (fun h => h)).trans r6.out
      have g7 : wr.cell? ⟨b, o + k * 8 + 7, none⟩ = some (.int .i64 (tv x.t).2.2) := (HU.out.cellq (p := ⟨b, o + k * 8 + 7, none⟩) HLT.out (fun h => h)).trans r7.out
      have hbw : b < wr.heap.size := Nat.lt_of_lt_of_le HLT.out HU.out.size
      by_cases hs : x.k.1 = s
      · have HS := Lib.hid hs
        have hne : (x.k.1 != s) = false := by simp [hs]
        clear hs
        go_wp2
        go_roundw
        case rel => exact ⟨k + 1, v, by omega, by go_num, Lib.hid (by rw [HT.out, if_pos HS.out]; exact HV.out), HX, HR, HO, HW, HU⟩
        case measure => simp [intOf]; omega
      · have HS := Lib.hid hs
        have hne : (x.k.1 != s) = true := by simp [hs]
        obtain ⟨v2, w6, hr2, ho2, hu2⟩ := run_append_sl (P := Try.prog) (wr.alloc (.cells (e8 x).toArray 41)).drew w1.heap.size 26 26 41 i0_ (.agg #[.int .i64 0, .int .i64 0, .int .i64 0, .int .i64 0, .bool false, .int .i64 0, .int .i64 0, .int .i64 0]) 8 64 Try.underlying26 hj hz0 hz1 hz2 rfl (by decide) v (cloE (E.take k) s).length (fl e8 (cloE (E.take k) s)) (own_drew (own_alloc HV.out _)) (some ⟨wr.heap.size, 0, none⟩) 1 1 (e8 x) (Sl.newc wr (e8 x).toArray _ 1 (by decide)).drew rfl (by have := e8_one [x]; rwa [fl_one] at this) (by have := clo_le (E.take k) s; rw [List.length_take] at this; unfold maxLen; omega) (by have := clo_le (E.take k) s; rw [List.length_take] at this; omega) (by have := HW.out; simp; omega)
        obtain ⟨A2, cp2, rfl, _, _⟩ := Sl.of_own ho2
        have HO6 : Hid (w6.ownsRow w1.heap.size 41 8 (.slice A2 ((cloE (E.take k) s).length + 1) cp2) (cloE (E.take (k + 1)) s).length (fl e8 (cloE (E.take (k + 1)) s))) := Lib.hid (by rw [HT.out, if_neg hs, fl_snoc, List.length_append]; exact ho2)
        have hown : ∀ b, b < w1.heap.size → ¬ v.ownBlock = some b := fun b hb => own_ne HV.out hb
        have hX6 := (HX.out.alloc (.cells (e8 x).toArray 41)).drew.upd hu2 (hown _ (by have := HB1.out; omega))
        have hR6 := (HR.out.alloc (.cells (e8 x).toArray 41)).drew.upd hu2 (hown _ (by have := HB1.out; omega))
        have hO6 := (HO.out.alloc (.cells (e8 x).toArray 41)).drew.upd hu2 (hown _ HB1.out)
        have HU6 : Hid (Upd (fun _ => False) w w6) := Lib.hid ((HU.out.alloc _).drew.trans hu2 (fun i hi => .inr (Nat.le_trans HU1.out.size (own_ge HV.out hi))))
        have o0_ : wr.cell? ⟨w.heap.size + 1 + 1, 0, none⟩ = some v := HO.out.cell 0
        have ol := HO.out.lt
        have o6_ : w6.cell? ⟨w.heap.size + 1 + 1, 0, none⟩ = some v := hO6.cell 0
        have x6_ : w6.cell? ⟨w.heap.size, 0, none⟩ = some (.slice (some ⟨b, o, none⟩) n c) := hX6.cell 0
        have ol6 := hO6.lt
        have xl6 := hX6.lt
        have of6 : ∀ i, w6.frozen? ⟨w.heap.size + 1 + 1, i, none⟩ = false := fun i => hO6.frz i
        have HX6 := Lib.hid hX6
        have HR6 := Lib.hid hR6
        have HO6b := Lib.hid hO6
        have HW6 : Hid (w1.heap.size ≤ w6.heap.size) := Lib.hid (by have := hu2.size; have := HW.out; simp at *; omega)
        clear ho2 hu2 hown hX6 hR6 hO6 hs
        have h0 : w6.cell? ⟨b, o + k * 8, none⟩ = some (.int .i64 x.k.1) := (HU6.out.cellq (p := ⟨b, o + k * 8, none⟩) HLT.out (fun h => h)).trans r0.out
        have h1 : w6.cell? ⟨b, o + k * 8 + 1, none⟩ = some (.int .i64 x.k.2.1) := (HU6.out.cellq (p := ⟨b, o + k * 8 + 1, none⟩) HLT.out (fun h => h)).trans r1.out
        have h2 : w6.cell? ⟨b, o + k * 8 + 2, none⟩ = some (.int .i64 x.k.2.2) := (HU6.out.cellq (p := ⟨b, o + k * 8 + 2, none⟩) HLT.out (fun h => h)).trans r2.out
        have h3 : w6.cell? ⟨b, o + k * 8 + 3, none⟩ = some (.int .i64 x.id) := (HU6.out.cellq (p := ⟨b, o + k * 8 + 3, none⟩) HLT.out (fun h => h)).trans r3.out
        have h4 : w6.cell? ⟨b, o + k * 8 + 4, none⟩ = some (.bool x.t.isSome) := (HU6.out.cellq (p := ⟨b, o + k * 8 + 4, none⟩) HLT.out (fun h => h)).trans r4.out
        have h5 : w6.cell? ⟨b, o + k * 8 + 5, none⟩ = some (.int .i64 (tv x.t).1) := (HU6.out.cellq (p := ⟨b, o + k * 8 + 5, none⟩) HLT.out (fun h => h)).trans r5.out
        have h6 : w6.cell? ⟨b, o + k * 8 + 6, none⟩ = some (.int .i64 (tv x.t).2.1) := (HU6.out.cellq (p := ⟨b, o + k * 8 + 6, none⟩) HLT.out (fun h => h)).trans r6.out
        have h7 : w6.cell? ⟨b, o + k * 8 + 7, none⟩ = some (.int .i64 (tv x.t).2.2) := (HU6.out.cellq (p := ⟨b, o + k * 8 + 7, none⟩) HLT.out (fun h => h)).trans r7.out
        have hbw6 : b < w6.heap.size := Nat.lt_of_lt_of_le HLT.out HU6.out.size
        go_wp2_with fail
        go_region_law (refine step_append_run rfl _ _ _ rfl rfl rfl hr2 ?_)
        all_goals
          clear x0_ xl o0_ ol o6_ x6_ xl6 hr2
          clear g0 g1 g2 g3 g4 g5 g6 g7
          clear h0 h1 h2 h3 h4 h5 h6 h7
          go_wp2
          go_roundw
          case rel => exact ⟨k + 1, _, by omega, by go_num, Lib.hid (own_far (p := ⟨w.heap.size + 1 + 1, 0, none⟩) HO6.out (own_ne HO6.out HB1.out) _), Lib.hid (HX6.out.far (p := ⟨w.heap.size + 1 + 1, 0, none⟩) (show w.heap.size ≠ w.heap.size + 1 + 1 by omega) _), Lib.hid (HR6.out.far (p := ⟨w.heap.size + 1 + 1, 0, none⟩) (show w.heap.size + 1 ≠ w.heap.size + 1 + 1 by omega) _), Lib.hid (HO6b.out.set 0 _), Lib.hid (by have := HW6.out; simpa [World.setCell] using this), Lib.hid (HU6.out.set (p := ⟨w.heap.size + 1 + 1, 0, none⟩) (.inr (show w.heap.size ≤ w.heap.size + 1 + 1 by omega)) _)⟩
          case measure => simp [intOf]; omega
    · obtain rfl : k = n := by omega
      have hO := HV.out
      rw [List.take_of_length_le (by rw [HL.out]; exact Nat.le_refl _)] at hO
      obtain ⟨A3, c3, rfl, hs3, hge⟩ := Sl.of_own hO
      have HS3 := Lib.hid hs3
      have HG3 := Lib.hid hge
      have o0_ : wr.cell? ⟨w.heap.size + 1 + 1, 0, none⟩ = some (.slice A3 (cloE E s).length c3) := HO.out.cell 0
      have o1_ : wr.cell? ⟨w.heap.size + 1 + 1, 1, none⟩ = some (.slice B m d) := HO.out.cell 1
      have ol := HO.out.lt
      have q0_ : wr.cell? ⟨w.heap.size + 1, 0, none⟩ = some (.slice none 0 0) := HR.out.cell 0
      have q1_ : wr.cell? ⟨w.heap.size + 1, 1, none⟩ = some (.slice none 0 0) := HR.out.cell 1
      have ql := HR.out.lt
      have qf : ∀ i, wr.frozen? ⟨w.heap.size + 1, i, none⟩ = false := fun i => HR.out.frz i
      have hle := HCL.out
      have hln := HL.out
      have HFIN : Hid (∀ W, Upd (At (w.heap.size + 1)) wr W → Kp W F A3 (cloE E s).length c3 (fl e8 (cloE E s)) ∧ Kp W F B m d (prs J) ∧ Upd (fun _ => False) w W) := Lib.hid (fun W hu => by
        have hw : Upd (fun _ => False) w W := HU.out.trans hu (fun i hi => .inr (by rw [show i = w.heap.size + 1 from hi]; omega))
        refine ⟨Kp.of_new (HS3.out.upd hu (fun b o e hb => ?_)) (fun b o e hf => ?_), HB.out.keep0 hw, hw⟩
        · have h1 := HG3.out b o e
          have h2 := HB1.out
          have h3 : b = w.heap.size + 1 := hb
          omega
        · have h1 := HG3.out b o e
          have h2 := HF.out b hf
          have h3 := HU1.out.size
          omega)
      have hw64 : wrap64 ((k : Int) - ((cloE E s).length : Int)) = (k : Int) - ((cloE E s).length : Int) := by unfold wrap64; omega
      have hwi : IntKind.i64.wrap ((k : Int) - ((cloE E s).length : Int)) = (k : Int) - ((cloE E s).length : Int) := by
        rw [IntKind.wrap_i64]; omega
      have HNL : Hid ((k : Int) = (E.length : Int)) := Lib.hid (by rw [HL.out])
      clear hs3 hO hge
      go_wp2_with fail
      go_region_held3 (fun w' => w'.cell? ⟨w.heap.size + 1 + 1, 0, none⟩ = some (.slice A3 (cloE E s).length c3) ∧ w'.cell? ⟨w.heap.size + 1 + 1, 1, none⟩ = some (.slice B m d) ∧ w'.cell? ⟨w.heap.size, 0, none⟩ = some (.slice A k c)) (go_keep) (fail)
      all_goals
        go_wp2
      all_goals refine bodyPost_ret (v := .tuple #[.agg #[.slice A3 (cloE E s).length c3, .slice B m d], .int .i64 ((k : Int) - ((cloE E s).length : Int))]) (by simp [results, Try.results22, go_sem, cell_drew, q0_, q1_, ql, hwi]) rfl ⟨A3, c3, by rw [HNL.out], HFIN.out _ (by repeat (first | exact Upd.refl _ _ | refine Upd.alloc ?_ _ | refine Upd.drew ?_ | refine Upd.drewN ?_ _ | refine Upd.put ?_ _ _))⟩
end
end Go.Proofs.Ytninaaolbgchpaa
