/- Awake; a set behind deeds; what one holder does to another one; nobody's set. -/
import Derived.Test.YtkhdgdbbhbphiaaPd
import Derived.LoopTactic
namespace Go.Proofs.Ytkhdgdbbhbphiaa
open Go.RowKit
set_option linter.unusedVariables false
set_option linter.unusedSimpArgs false

theorem h_ok (a b : Int) (h1 : (Lit.int .i64 a).wf = true) (h2 : (Lit.int .i64 b).wf = true) : hok (a, b) := ⟨h1, h2⟩
set_option maxHeartbeats 1000000 in
theorem awake_any (w : World) : Calls Try.prog 9 #[] w fun e w' => e = .returned (.bool true) ∧ Upd (fun _ => False) w w' := by
  go_enter Try.func9, Try.ntmps9
  go_wp2_with fail
  refine (pnew_yes (by decide) (by decide) _).mono ?_
  rintro e_ w1 ⟨g, b, rfl, hp, hg, hb, hu⟩
  have P1 := Lib.hid hp
  have U1 := Lib.hid hu
  have HB := Lib.hid hb
  clear hp hg hb hu
  go_wp2_with fail
  refine (take_to (h := ((1, 0) : H2)) (h_ok _ _ (by decide) (by decide)) (by decide) _ P1.out).mono ?_
  rintro e_ w2 ⟨rfl, hp, hu⟩
  rw [show ptake 1 [] ((1, 0) : H2) = [(1, 0)] from by decide] at hp
  rw [show ptakes 1 [] ((1, 0) : H2) = true from by decide]
  have P2 := Lib.hid hp
  have U2 := Lib.hid (U1.out.trans hu (fun i hi => .inr (by rw [show i = b from hi]; exact HB.out)))
  clear hp hu P1 U1
  go_wp2_with fail
  refine (take_to (h := ((2, 0) : H2)) (h_ok _ _ (by decide) (by decide)) (by decide) _ P2.out).mono ?_
  rintro e_ w3 ⟨rfl, hp, hu⟩
  rw [show ptake 1 [(1, 0)] ((2, 0) : H2) = [(1, 0)] from by decide] at hp
  rw [show ptakes 1 [(1, 0)] ((2, 0) : H2) = false from by decide]
  have P3 := Lib.hid hp
  have U3 := Lib.hid (U2.out.trans hu (fun i hi => .inr (by rw [show i = b from hi]; exact HB.out)))
  clear hp hu P2 U2
  go_wp2_with fail
  refine (free_to (h := ((1, 0) : H2)) (h_ok _ _ (by decide) (by decide)) _ P3.out).mono ?_
  rintro e_ w4 ⟨rfl, hp, hu⟩
  rw [show hwo [(1, 0)] ((1, 0) : H2) = [] from by decide] at hp
  rw [show decide (((1, 0) : H2) ∈ ([(1, 0)] : List H2)) = true from by decide]
  have P4 := Lib.hid hp
  have U4 := Lib.hid (U3.out.trans hu (fun i hi => .inr (by rw [show i = b from hi]; exact HB.out)))
  clear hp hu P3 U3
  go_wp2_with fail
  refine (take_to (h := ((2, 1) : H2)) (h_ok _ _ (by decide) (by decide)) (by decide) _ P4.out).mono ?_
  rintro e_ w5 ⟨rfl, hp, hu⟩
  rw [show ptake 1 [] ((2, 1) : H2) = [(2, 1)] from by decide] at hp
  rw [show ptakes 1 [] ((2, 1) : H2) = true from by decide]
  have P5 := Lib.hid hp
  have U5 := Lib.hid (U4.out.trans hu (fun i hi => .inr (by rw [show i = b from hi]; exact HB.out)))
  clear hp hu P4 U4
  go_wp2_with fail
  refine (used_to _ P5.out).mono ?_
  rintro e_ w6 ⟨rfl, hu⟩
  have P6 := Lib.hid (P5.out.upd0 hu)
  have U6 := Lib.hid (U5.out.trans hu (fun _ h => h.elim))
  clear hu P5 U5
  go_wp2_with fail
  refine (room_to _ P6.out).mono ?_
  rintro e_ w7 ⟨rfl, nq, hq⟩
  have hu : Upd (fun _ => False) w6 w7 := hq ▸ (Upd.refl _ _).drewN nq
  have P7 := Lib.hid (P6.out.upd0 hu)
  have U7 := Lib.hid (U6.out.trans hu (fun _ h => h.elim))
  clear hu hq P6 U6
  go_wp2_with fail
  refine (holds_to (h := ((2, 1) : H2)) (h_ok _ _ (by decide) (by decide)) _ P7.out).mono ?_
  rintro e_ w8 ⟨rfl, hu⟩
  have U8 := Lib.hid (U7.out.trans hu (fun _ h => h.elim))
  clear hu P7 U7
  go_wp2
  go_ret
  exact ⟨rfl, U8.out⟩
/-- Deeds, as they lie. -/
abbrev P3 := Int × Int × Int
def p3 (x : P3) : List Value := [.int .i64 x.1, .int .i64 x.2.1, .int .i64 x.2.2]
theorem p3_len (x : P3) : (p3 x).length = 3 := rfl
def Wp (l : List P3) : Prop := ∀ x ∈ l, hok x.2
set_option maxHeartbeats 1000000 in
theorem ran_to (L : Option Addr) (len cap : Nat) (l : List P3) (hl : l.length = len) (hm : len ≤ 9223372036854775807) (hwf : Wp l) (w : World) (hs : Sl w L len cap (fl p3 l)) :
    Calls Try.prog 10 #[.slice L len cap] w fun e w' => ∃ g, e = .returned (.pointer (some ⟨g, 0, none⟩)) ∧ ∃ b hs, PS w' g b 4 100 hs ∧ hs.length ≤ 4 ∧ w.heap.size ≤ g ∧ w.heap.size ≤ b ∧ Upd (fun _ => False) w w' := by
  have HL := Lib.hid hl
  have HS := Lib.hid hs
  have HWF := Lib.hid hwf
  clear hl hs hwf
  go_enter Try.func10, Try.ntmps10
  go_wp2_with fail
  refine (pnew_yes (by decide) (by decide) _).mono ?_
  rintro e_ w1 ⟨g, b, rfl, hp, hg, hb, hu⟩
  have P1 := Lib.hid hp
  have U1 := Lib.hid hu
  have HB := Lib.hid hb
  have HG := Lib.hid hg
  clear hp hg hb hu
  go_wp2_with fail
  go_loopw [4, 5] (fun xv iv wr => ∃ (k : Nat) (hs x : List H2) (A : Option Addr) (n c : Nat), k ≤ len ∧ k ≤ 100 ∧ iv = .int .i64 k ∧ xv = .slice A n c ∧ Hid (PS wr g b 4 k hs ∧ hs.length ≤ 4) ∧ Hid (x.length = n ∧ n ≤ k) ∧ Hid (Sl wr A n c (prs x)) ∧ Hid (Upd (fun _ => False) w wr)) (fun _ iv _ => 100 - (intOf iv).toNat)
  case atStart => exact ⟨0, [], [], none, 0, 0, Nat.zero_le _, Nat.zero_le _, rfl, rfl, Lib.hid ⟨P1.out, by decide⟩, Lib.hid ⟨rfl, Nat.le_refl _⟩, Lib.hid (Sl.zero _), U1⟩
  case round =>
    obtain ⟨k, hs, x, A, n, c, hk, hk2, rfl, rfl, HP, HX, HSX, HU⟩ := hrel
    by_cases hlt1 : k < len
    · by_cases hlt2 : k < 100
      · obtain ⟨d, hd⟩ : ∃ x, l[k]? = some x := ⟨l[k]'(by rw [HL.out]; exact hlt1), List.getElem?_eq_getElem _⟩
        have HOK := Lib.hid (HWF.out d (List.mem_of_getElem? hd))
        obtain ⟨bl, of, rfl, hb, hc⟩ := (HS.out.upd0 HU.out).row p3_len (by decide) hd
        obtain ⟨kd, h⟩ := d
        have f0 := hc 0 _ rfl
        have f1 := hc 1 _ rfl
        have f2 := hc 2 _ rfl
        simp only [← Nat.add_assoc, Nat.add_zero] at f0 f1 f2
        replace f0 : wr.cell? ⟨bl, of + k * 3, none⟩ = some (.int .i64 kd) := f0
        replace f1 : wr.cell? ⟨bl, of + k * 3 + 1, none⟩ = some (.int .i64 h.1) := f1
        replace f2 : wr.cell? ⟨bl, of + k * 3 + 2, none⟩ = some (.int .i64 h.2) := f2
        have i0 : (0 : Int) ≤ (k : Int) := Int.natCast_nonneg _
        have i1 : (k : Int) < (len : Int) := by omega
        have i2 : (k : Int) < 100 := by omega
        clear hc hd
        go_wp2_with fail
        refine (do_to (kd := kd) (h := h) HOK.out (by omega) HX.out.1 (by have := HX.out.2; omega) _ HP.out.1 HSX.out).mono ?_
        rintro e_ w2 ⟨A', n', c', rfl, hl2, hs2, hp2, hu2⟩
        have HP2 : Hid (PS w2 g b 4 (k + 1) (pdo 4 hs kd h) ∧ (pdo 4 hs kd h).length ≤ 4) := Lib.hid ⟨hp2, by have := pdo_len (most := 4) (by decide) (by have := HP.out.2; omega) kd h (hs := hs); omega⟩
        have HS2 := Lib.hid hs2
        have HX2 : Hid ((rdo x 4 kd h).length = n' ∧ n' ≤ k + 1) := Lib.hid ⟨hl2, by have h1 := rdo_len x 4 kd h; have h2 := HX.out; omega⟩
        have HU2 := Lib.hid (HU.out.trans hu2 (fun i hi => .inr (by rw [show i = b from hi]; exact HB.out)))
        clear hl2 hs2 hp2 hu2
        go_wp2
        go_roundw
        case rel => exact ⟨k + 1, _, _, A', n', c', by omega, by omega, by go_num, rfl, HP2, HX2, HS2, HU2⟩
        case measure => simp [intOf]; omega
      · have hq : ¬ (k : Int) < 100 := by omega
        have hq1 : (k : Int) < (len : Int) := by omega
        go_wp2
        go_ret
        exact ⟨g, rfl, b, hs, HP.out.1.more (by omega), HP.out.2, HG.out, HB.out, HU.out⟩
    · have hq : ¬ (k : Int) < (len : Int) := by omega
      go_wp2
      go_ret
      exact ⟨g, rfl, b, hs, HP.out.1.more (by omega), HP.out.2, HG.out, HB.out, HU.out⟩
end Go.Proofs.Ytkhdgdbbhbphiaa
