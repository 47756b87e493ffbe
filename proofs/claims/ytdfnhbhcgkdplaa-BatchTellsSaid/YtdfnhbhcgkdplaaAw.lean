/- awake: 5, 7, and 5 again. -/
import Derived.Test.YtdfnhbhcgkdplaaMd
namespace Go.Proofs.Ytdfnhbhcgkdplaa
open Go.RowKit
set_option linter.unusedVariables false
set_option linter.unusedSimpArgs false

set_option maxHeartbeats 4000000 in
theorem awake_any (w : World) : Calls Try.prog 9 #[] w fun e w' => e = .returned (.bool true) ∧ Below w.heap.size w w' := by
  go_enter Try.func9, Try.ntmps9
  go_wp2_with fail
  refine (one_any 1 5 _).mono ?_
  rintro e w1 ⟨A1, c1, M1, d1, rfl, ha, hm, hal, hml, hd⟩
  have HA1 := Lib.hid (ha.alloc (.cells #[.slice A1 1 c1, .slice M1 1 d1] 31))
  have HM1 := Lib.hid (hm.alloc (.cells #[.slice A1 1 c1, .slice M1 1 d1] 31))
  have HU1 := Lib.hid ((Upd.of_below hd (fun _ => False)).alloc (.cells #[.slice A1 1 c1, .slice M1 1 d1] 31))
  have hge := Lib.hid hd.size
  have SA1 : Hid (Sep w1.heap.size A1) := Sep.of_lt (fun b o e => (hal b o e).2) (Nat.le_refl _)
  have SM1 : Hid (Sep w1.heap.size M1) := Sep.of_lt (fun b o e => (hml b o e).2) (Nat.le_refl _)
  have BB1 : Hid (Blk (w1.alloc (.cells #[.slice A1 1 c1, .slice M1 1 d1] 31)) w1.heap.size 31 #[.slice A1 1 c1, .slice M1 1 d1]) := Blk.new w1 _ _
  have hl1 : w1.heap.size < (w1.alloc (.cells #[.slice A1 1 c1, .slice M1 1 d1] 31)).heap.size := BB1.out.lt
  have HL1 := Lib.hid hl1
  clear ha hm hal hml hd hl1
  go_wp2_with fail
  refine (add_to (xs := [5]) (ms := [(1, 0)]) (n := 1) (m := 1) (xs' := [5, 7]) (ms' := [(1, 0), (2, 1)]) (ok := true) (n' := 2) (m' := 2) (by decide) rfl rfl rfl rfl (by omega) (by omega) _ HA1.out HM1.out).mono ?_
  rintro e w2 ⟨A2, c2, M2, d2, rfl, ha, hm, hna, hnm, hd⟩
  have bb := BB1.out.upd (Upd.of_below hd (fun _ => False)) (fun h => h)
  have cb2 := bb.cell
  have fb2 := bb.frz
  have lb2 := bb.lt
  have SA2 : Hid (Sep w1.heap.size A2) := Sep.nw SA1.out hna HL1.out
  have SM2 : Hid (Sep w1.heap.size M2) := Sep.nw SM1.out hnm HL1.out
  have BB2 : Hid (Blk ((w2.setCell ⟨w1.heap.size, 0, none⟩ (.slice A2 2 c2)).setCell ⟨w1.heap.size, 1, none⟩ (.slice M2 2 d2)) w1.heap.size 31 #[.slice A2 2 c2, .slice M2 2 d2]) := (bb.set 0 (.slice A2 2 c2)).set 1 (.slice M2 2 d2)
  have HU2 := Lib.hid (((HU1.out.trans (Upd.of_below hd (fun _ => False)) (fun _ h => h.elim)).set (p := ⟨w1.heap.size, 0, none⟩) (.inr hge.out) (.slice A2 2 c2)).set (p := ⟨w1.heap.size, 1, none⟩) (.inr hge.out) (.slice M2 2 d2))
  have HA2 := Lib.hid ((ha.farS (p := ⟨w1.heap.size, 0, none⟩) SA2.out (.slice A2 2 c2)).farS (p := ⟨w1.heap.size, 1, none⟩) SA2.out (.slice M2 2 d2))
  have HM2 := Lib.hid ((hm.farS (p := ⟨w1.heap.size, 0, none⟩) SM2.out (.slice A2 2 c2)).farS (p := ⟨w1.heap.size, 1, none⟩) SM2.out (.slice M2 2 d2))
  have HL2 := Lib.hid BB2.out.lt
  clear ha hm hna hnm hd bb
  go_wp2_with fail
  refine (add_to (xs := [5, 7]) (ms := [(1, 0), (2, 1)]) (n := 2) (m := 2) (xs' := [5, 7]) (ms' := [(1, 0), (2, 1), (3, 0)]) (ok := true) (n' := 2) (m' := 3) (by decide) rfl rfl rfl rfl (by omega) (by omega) _ HA2.out HM2.out).mono ?_
  rintro e w3 ⟨A3, c3, M3, d3, rfl, ha, hm, hna, hnm, hd⟩
  have bb := BB2.out.upd (Upd.of_below hd (fun _ => False)) (fun h => h)
  have cb3 := bb.cell
  have fb3 := bb.frz
  have lb3 := bb.lt
  have SA3 : Hid (Sep w1.heap.size A3) := Sep.nw SA2.out hna HL2.out
  have SM3 : Hid (Sep w1.heap.size M3) := Sep.nw SM2.out hnm HL2.out
  have BB3 : Hid (Blk ((w3.setCell ⟨w1.heap.size, 0, none⟩ (.slice A3 2 c3)).setCell ⟨w1.heap.size, 1, none⟩ (.slice M3 3 d3)) w1.heap.size 31 #[.slice A3 2 c3, .slice M3 3 d3]) := (bb.set 0 (.slice A3 2 c3)).set 1 (.slice M3 3 d3)
  have HU3 := Lib.hid (((HU2.out.trans (Upd.of_below hd (fun _ => False)) (fun _ h => h.elim)).set (p := ⟨w1.heap.size, 0, none⟩) (.inr hge.out) (.slice A3 2 c3)).set (p := ⟨w1.heap.size, 1, none⟩) (.inr hge.out) (.slice M3 3 d3))
  have HA3 := Lib.hid ((ha.farS (p := ⟨w1.heap.size, 0, none⟩) SA3.out (.slice A3 2 c3)).farS (p := ⟨w1.heap.size, 1, none⟩) SA3.out (.slice M3 3 d3))
  have HM3 := Lib.hid ((hm.farS (p := ⟨w1.heap.size, 0, none⟩) SM3.out (.slice A3 2 c3)).farS (p := ⟨w1.heap.size, 1, none⟩) SM3.out (.slice M3 3 d3))
  have HL3 := Lib.hid BB3.out.lt
  clear ha hm hna hnm hd bb
  go_wp2_with fail
  refine (add_to (xs := [5, 7]) (ms := [(1, 0), (2, 1), (3, 0)]) (n := 2) (m := 3) (xs' := [5, 7]) (ms' := [(1, 0), (2, 1), (3, 0)]) (ok := false) (n' := 2) (m' := 3) (by decide) rfl rfl rfl rfl (by omega) (by omega) _ HA3.out HM3.out).mono ?_
  rintro e w4 ⟨A4, c4, M4, d4, rfl, ha, hm, hna, hnm, hd⟩
  have bb := BB3.out.upd (Upd.of_below hd (fun _ => False)) (fun h => h)
  have HB4 := Lib.hid (HU3.out.trans (Upd.of_below hd (fun _ => False)) (fun _ h => h.elim))
  have BB4 := Lib.hid bb
  have cb4 := bb.cell
  have lb4 := bb.lt
  have HA4 := Lib.hid (HA3.out.below hd)
  have HM4 := Lib.hid (HM3.out.below hd)
  clear ha hm hna hnm hd bb cb2 cb3 fb2 fb3
  go_wp2_with fail
  refine (split_to (ms := [(1, 0), (2, 1), (3, 0)]) (vals := [50, 70]) (ps := [(1, 50), (2, 70), (3, 50)]) (m := 3) (v := 2) (l := 3) (n := 2) rfl rfl rfl rfl (by decide) (by omega) (by omega) _ ((HM4.out.alloc _).alloc _) (Sl.of_blk (Blk.new1 w4 _ #[.int .i64 50, .int .i64 70] _) (Nat.le_refl _) (by simp [maxLen]) (fun j u hu => by simpa [nums] using hu))).mono ?_
  rintro e w5 ⟨P, pc, rfl, hp, hd⟩
  have HU5 := Lib.hid (((HB4.out.alloc (.cells #[.slice A4 2 c4, .slice M4 3 d4] 31)).alloc (.cells #[.int .i64 50, .int .i64 70] 3)).trans (Upd.of_below hd (fun _ => False)) (fun _ h => h.elim))
  have bb := ((BB4.out.alloc (.cells #[.slice A4 2 c4, .slice M4 3 d4] 31)).alloc (.cells #[.int .i64 50, .int .i64 70] 3)).upd (Upd.of_below hd (fun _ => False)) (fun h => h)
  have cb5 := bb.cell
  have HM5 := Lib.hid (((HM4.out.alloc (.cells #[.slice A4 2 c4, .slice M4 3 d4] 31)).alloc (.cells #[.int .i64 50, .int .i64 70] 3)).below hd)
  obtain ⟨pb, po, rfl, hpb, p0, p1⟩ := hp.pr (i := 2) (m := (3, 50)) rfl
  have BB5 := Lib.hid bb
  clear hp hd bb cb4
  go_wp2_with fail
  refine (full_to (f := true) (by decide) (by omega) _).mono ?_
  rintro e w6 ⟨rfl, hd⟩
  have bb := BB5.out.upd (Upd.of_below hd (fun _ => False)) (fun h => h)
  have cb6 := bb.cell
  have HM6 := Lib.hid (HM5.out.below hd)
  have HU6 := Lib.hid (HU5.out.trans (Upd.of_below hd (fun _ => False)) (fun _ h => h.elim))
  clear hd bb cb5
  go_wp2_with fail
  refine (lead_to (ms := [(1, 0), (2, 1), (3, 0)]) (m := 3) (r := 1) rfl rfl _ HM6.out).mono ?_
  rintro e w7 ⟨rfl, hd⟩
  have HU7 := Lib.hid (HU6.out.trans (Upd.of_below hd (fun _ => False)) (fun _ h => h.elim))
  clear hd
  go_wp2_with fail
  go_ret
  exact ⟨rfl, HU7.out.below0⟩
end Go.Proofs.Ytdfnhbhcgkdplaa
