/- A deed, of both; a set behind deeds. -/
import Derived.Test.YtkhdgdbbhbphiaaPm
import Derived.Test.YtkhdgdbbhbphiaaPt
import Derived.Test.YtkhdgdbbhbphiaaPf
namespace Go.Proofs.Ytkhdgdbbhbphiaa
open Go.RowKit
set_option linter.unusedVariables false
set_option linter.unusedSimpArgs false

abbrev dval (kd : Int) (h : H2) : Value := .agg #[.int .i64 kd, .int .i64 h.1, .int .i64 h.2]
def pans (most : Int) (hs : List H2) (kd : Int) (h : H2) : Bool := if kd = 1 then ptakes most hs h else decide (h ∈ hs)
def pdo (most : Int) (hs : List H2) (kd : Int) (h : H2) : List H2 := if kd = 1 then ptake most hs h else hwo hs h
def rans (l : List H2) (most : Int) (kd : Int) (h : H2) : Bool := if kd = 1 then rtakes l most h else decide (h ∈ l)
def rdo (l : List H2) (most : Int) (kd : Int) (h : H2) : List H2 := if kd = 1 then rtake l most h else rfree l h
theorem rtake_len (l : List H2) (most : Int) (h : H2) : (rtake l most h).length ≤ l.length + 1 := by
  unfold rtake
  split
  · have := rat_le l h
    simp
    omega
  · omega
theorem rdo_len (l : List H2) (most kd : Int) (h : H2) : (rdo l most kd h).length ≤ l.length + 1 := by
  unfold rdo
  split
  · exact rtake_len l most h
  · exact Nat.le_succ_of_le (List.length_filter_le _ _)
theorem hput_len (hs : List H2) (h : H2) : (hput hs h).length ≤ hs.length + 1 := by
  unfold hput
  simpa using List.length_filter_le _ hs
theorem pdo_len {most : Int} {hs : List H2} (h0 : 0 ≤ most) (h1 : (hs.length : Int) ≤ most) (kd : Int) (h : H2) : ((pdo most hs kd h).length : Int) ≤ most := by
  unfold pdo ptake hwo
  split
  · split
    · rename_i hc
      unfold ptakes at hc
      simp only [Bool.and_eq_true, decide_eq_true_eq] at hc
      have := hput_len hs h
      omega
    · exact h1
  · have := List.length_filter_le (fun x => decide (x ≠ h)) hs
    omega
theorem PS.sl {w w' : World} {g b N : Nat} {most : Int} {hs : List H2} {A : Option Addr} {n c : Nat} {cs : List Value} (hp : PS w g b most N hs) (hsl : Sl w A n c cs) (hu : Upd (At b) w w') : Sl w' A n c cs := by
  refine ⟨hsl.le, hsl.cm, hsl.nil, ?_⟩
  rcases hsl.at_ with he | ⟨k, o, hA, hlt, hc⟩
  · exact .inl he
  · by_cases hcs : cs = []
    · exact .inl hcs
    · refine .inr ⟨k, o, hA, Nat.lt_of_lt_of_le hlt hu.size, fun j u hj => ?_⟩
      have hne : ¬ At b k := by
        rintro rfl
        obtain ⟨_, n, D, _, ⟨es, clock, hb, _⟩, _⟩ := hp
        have h0 := hc j u hj
        unfold World.cell? at h0
        simp only [hb] at h0
        cases h0
      exact (hu.cellq (p := ⟨k, o + j, none⟩) hlt hne).trans (hc j u hj)
set_option maxHeartbeats 1000000 in
theorem do_to {g b N n c : Nat} {most kd : Int} {hs l : List H2} {A : Option Addr} {h : H2} (hh : hok h) (hN : N < 1000) (hl : l.length = n) (hn : n ≤ 1000) (w : World) (hp : PS w g b most N hs) (hsl : Sl w A n c (prs l)) :
    Calls Try.prog 13 #[.pointer (some ⟨g, 0, none⟩), .slice A n c, .int .i64 most, dval kd h] w fun e w' => ∃ A' n' c', e = .returned (.tuple #[.slice A' n' c', .bool (pans most hs kd h == rans l most kd h)]) ∧ (rdo l most kd h).length = n' ∧ Sl w' A' n' c' (prs (rdo l most kd h)) ∧ PS w' g b most (N + 1) (pdo most hs kd h) ∧ Upd (At b) w w' := by
  have hu1 := (Upd.refl (fun _ => False) w).alloc (.cells #[.int .i64 kd, .int .i64 h.1, .int .i64 h.2] 26)
  have hbx := Blk.new w #[.int .i64 kd, .int .i64 h.1, .int .i64 h.2] 26
  have HBLT : Hid (b < w.heap.size) := Lib.hid hp.lt
  have HP := Lib.hid (hp.upd0 hu1)
  have HS := Lib.hid (hsl.upd0 hu1)
  have HU := Lib.hid hu1
  have HBX := Lib.hid hbx
  have HH := Lib.hid hh
  have HL := Lib.hid hl
  clear hp hu1 hbx hh hl hsl
  by_cases hk : kd = 1
  · have HK := Lib.hid hk
    have HA : Hid (pans most hs kd h = ptakes most hs h ∧ rans l most kd h = rtakes l most h ∧ pdo most hs kd h = ptake most hs h ∧ rdo l most kd h = rtake l most h) := Lib.hid ⟨if_pos hk, if_pos hk, if_pos hk, if_pos hk⟩
    have n0 : (kd == 1) = true := by simp [hk]
    clear hk
    go_enter Try.func13, Try.ntmps13
    go_wp2_with fail
    refine (made_to h _).mono ?_
    rintro e_ w2 ⟨rfl, hu⟩
    have HP2 := Lib.hid (HP.out.upd0 hu)
    have HS2 := Lib.hid (HS.out.upd0 hu)
    have HU2 := Lib.hid (HU.out.trans hu (fun _ h => h.elim))
    have HBX2 := Lib.hid (HBX.out.upd hu (fun h => h))
    clear hu HP HS HU HBX
    go_wp2_with fail
    refine (take_to HH.out hN _ HP2.out).mono ?_
    rintro e_ w3 ⟨rfl, hp3, hu⟩
    have HP3 := Lib.hid hp3
    have HS3 := Lib.hid (HP2.out.sl HS2.out hu)
    have HU3 := Lib.hid ((HU2.out.mono (S' := At b) (fun _ h => h.elim)).trans hu (fun _ h => .inl h))
    have HBX3 := Lib.hid (HBX2.out.upd hu (show ¬ At b w.heap.size by have := HBLT.out; unfold At; omega))
    clear hp3 hu HP2 HS2 HU2 HBX2
    have d1 : w3.cell? ⟨w.heap.size, 1, none⟩ = some (.int .i64 h.1) := HBX3.out.cell 1
    have d2 : w3.cell? ⟨w.heap.size, 2, none⟩ = some (.int .i64 h.2) := HBX3.out.cell 2
    have dl := HBX3.out.lt
    go_wp2_with fail
    refine (rtake_to HL.out hn _ HS3.out).mono ?_
    rintro e_ w4 ⟨A', n', c', rfl, hl4, hs4, hu⟩
    have HP4 := Lib.hid (HP3.out.upd0 hu)
    have HS4 := Lib.hid hs4
    have HL4 := Lib.hid hl4
    have HU4 := Lib.hid (HU3.out.trans hu (fun _ h => h.elim))
    clear hl4 hs4 hu HP3 HS3 HU3 HBX3 d1 d2 dl
    go_wp2
    exact bodyPost_ret (v := .tuple #[.slice A' n' c', .bool (ptakes most hs h == rtakes l most h)]) (by simp [results, Try.results13, go_sem]) rfl ⟨A', n', c', by rw [HA.out.1, HA.out.2.1], by rw [HA.out.2.2.2]; exact HL4.out, by rw [HA.out.2.2.2]; exact HS4.out, by rw [HA.out.2.2.1]; exact HP4.out, HU4.out⟩
  · have HA : Hid (pans most hs kd h = decide (h ∈ hs) ∧ rans l most kd h = decide (h ∈ l) ∧ pdo most hs kd h = hwo hs h ∧ rdo l most kd h = rfree l h) := Lib.hid ⟨if_neg hk, if_neg hk, if_neg hk, if_neg hk⟩
    have n0 : (kd == 1) = false := by simp [hk]
    clear hk
    go_enter Try.func13, Try.ntmps13
    go_wp2_with fail
    refine (made_to h _).mono ?_
    rintro e_ w2 ⟨rfl, hu⟩
    have HP2 := Lib.hid (HP.out.upd0 hu)
    have HS2 := Lib.hid (HS.out.upd0 hu)
    have HU2 := Lib.hid (HU.out.trans hu (fun _ h => h.elim))
    have HBX2 := Lib.hid (HBX.out.upd hu (fun h => h))
    clear hu HP HS HU HBX
    go_wp2_with fail
    refine (free_to HH.out _ HP2.out).mono ?_
    rintro e_ w3 ⟨rfl, hp3, hu⟩
    have HP3 := Lib.hid hp3
    have HS3 := Lib.hid (HP2.out.sl HS2.out hu)
    have HU3 := Lib.hid ((HU2.out.mono (S' := At b) (fun _ h => h.elim)).trans hu (fun _ h => .inl h))
    have HBX3 := Lib.hid (HBX2.out.upd hu (show ¬ At b w.heap.size by have := HBLT.out; unfold At; omega))
    clear hp3 hu HP2 HS2 HU2 HBX2
    have d1 : w3.cell? ⟨w.heap.size, 1, none⟩ = some (.int .i64 h.1) := HBX3.out.cell 1
    have d2 : w3.cell? ⟨w.heap.size, 2, none⟩ = some (.int .i64 h.2) := HBX3.out.cell 2
    have dl := HBX3.out.lt
    obtain ⟨x, hx⟩ : ∃ x, decide (h ∈ hs) = x := ⟨_, rfl⟩
    rw [hx]
    have HX := Lib.hid hx
    clear hx
    go_wp2_with fail
    refine (rfree_to HL.out hn _ HS3.out).mono ?_
    rintro e_ w4 ⟨A', n', c', rfl, hl4, hs4, hu⟩
    have HP4 := Lib.hid ((HP3.out.upd0 hu).more (Nat.le_succ _))
    have HS4 := Lib.hid hs4
    have HL4 := Lib.hid hl4
    have HU4 := Lib.hid (HU3.out.trans hu (fun _ h => h.elim))
    clear hl4 hs4 hu HP3 HS3 HU3 HBX3 d1 d2 dl
    obtain ⟨y, hy⟩ : ∃ y, decide (h ∈ l) = y := ⟨_, rfl⟩
    rw [hy]
    have HY := Lib.hid hy
    clear hy
    go_wp2
    exact bodyPost_ret (v := .tuple #[.slice A' n' c', .bool (x == y)]) (by simp [results, Try.results13, go_sem]) rfl ⟨A', n', c', by rw [HA.out.1, HA.out.2.1, HX.out, HY.out], by rw [HA.out.2.2.2]; exact HL4.out, by rw [HA.out.2.2.2]; exact HS4.out, by rw [HA.out.2.2.1]; exact HP4.out, HU4.out⟩
end Go.Proofs.Ytkhdgdbbhbphiaa
