/- A breaker behind deeds. -/
import Derived.Test.YtmihigkkicgkdaaAw
import Derived.Test.YtmihigkkicgkdaaArg
import Derived.Deep.RegionHeld3
import Derived.LoopTactic
namespace Go.Proofs.Ytmihigkkicgkdaa
open Go.RowKit
set_option linter.unusedVariables false
set_option linter.unusedSimpArgs false

/-- What is done, and how much later. -/
structure Deed where
  k : Int
  t : Int
  ok : Bool
def Deed.row (d : Deed) : List Value := [.int .i64 d.k, .int .u64 d.t, .bool d.ok]
/-- The deeds lie in memory. -/
def DRows (w : World) (A : Option Addr) (D : List Deed) : Prop :=
  ∀ i d, D[i]? = some d → ∃ b o, A = some ⟨b, o, none⟩ ∧ b < w.heap.size ∧ w.cell? ⟨b, o + i * 3, none⟩ = some (.int .i64 d.k) ∧ w.cell? ⟨b, o + i * 3 + 1, none⟩ = some (.int .u64 d.t) ∧ w.cell? ⟨b, o + i * 3 + 2, none⟩ = some (.bool d.ok)

theorem do_at (g : Nat) (s u p q t k T : Int) (ok : Bool) (w : World) (h : IsB w g ⟨s, u, p, q⟩) (hb : B.ok ⟨s, u, p, q⟩) :
    Calls Try.prog 18 #[.pointer (some ⟨g, 0, none⟩), .agg #[.int .i64 s, .int .u64 u, .int .u64 p, .int .i64 q], .int .u64 t, .agg #[.int .i64 k, .int .u64 T, .bool ok]] w fun e w' =>
      ∃ s2 u2 p2 q2 : Int, Hid (B.act ⟨s, u, p, q⟩ k t ok = ⟨s2, u2, p2, q2⟩) ∧ e = .returned (.tuple #[.agg #[.int .i64 s2, .int .u64 u2, .int .u64 p2, .int .i64 q2], .bool true]) ∧ IsB w' g ⟨s2, u2, p2, q2⟩ ∧ Upd (At g) w w' :=
  (do_any g ⟨s, u, p, q⟩ t k T ok w h hb).mono fun e w' ⟨h1, h2, h3⟩ => ⟨_, _, _, _, rfl, h1, h2, h3⟩

set_option maxHeartbeats 2000000 in
theorem ran_any (v0 v1 v2 v3 v4 v5 v6 v7 v8 v9 v11 v12 v13 v14 : Value) (sleep force : Int) (hs : ok64 sleep) (A : Option Addr) (len cap : Nat) (D : List Deed) (hD : D.length = len) (hm : len ≤ 9223372036854775807) (hok : ∀ d ∈ D, ok64 d.t) (J : B → Prop) (hJ0 : J ⟨1, 0, sleep, force⟩) (hJ : ∀ b k t ok, J b → J (B.act b k t ok)) (w : World) (hr : DRows w A D) :
    Calls Try.prog 20 #[.agg #[v0, v1, v2, v3, v4, v5, v6, v7, v8, v9, .int .u64 sleep, v11, v12, v13, v14, .int .i64 force], .slice A len cap] w fun e w' =>
      ∃ (g : Nat) (b : B) (t : Int), e = .returned (.tuple #[.pointer (some ⟨g, 0, none⟩), .int .u64 t]) ∧ IsB w' g b ∧ w.heap.size ≤ g ∧ b.ok ∧ ok64 t ∧ J b ∧ Below w.heap.size w w' := by
  have HJ0 := Lib.hid hJ0
  have HJ := Lib.hid hJ
  clear hJ0 hJ
  have HS := Lib.hid hs
  have HR := Lib.hid hr
  have HOK := Lib.hid hok
  have HD := Lib.hid hD
  clear hs hr hok hD
  go_enter Try.func20, Try.ntmps20
  go_wp2_with fail
  refine (new_any _ _ _ _ _ _ _ _ _ _ _ _ _ _ _ _ _).mono ?_
  rintro e w1 ⟨g, rfl, hb, hg, hd⟩
  have hs1 : w.heap.size < w1.heap.size := by have := hd.size; simp at this; omega
  have b1 : Blk w1 w.heap.size 28 #[v0, v1, v2, v3, v4, v5, v6, v7, v8, v9, .int .u64 sleep, v11, v12, v13, v14, .int .i64 force] := (Blk.new w _ _).upd (Upd.of_below hd (fun _ => False)) (fun h => h)
  have c1 := b1.cell
  have HU := Lib.hid (((Upd.refl (fun _ => False) w).alloc _).trans (Upd.of_below hd (fun _ => False)) (fun _ h => h.elim))
  have HB := Lib.hid hb
  have hgw : w.heap.size < g := by simp at hg; omega
  have hgl : g < w1.heap.size := hb.lt
  clear b1 hd hb hg
  go_wp2_with fail
  refine (refnew _ _ _ _ _ _ _ _ _ _ _ _ _ _ _ _ _).mono ?_
  rintro e w2 ⟨rfl, hd⟩
  have hs2 : w.heap.size < w2.heap.size := by have := hd.size; omega
  have HU2 := Lib.hid (HU.out.trans (Upd.of_below hd (fun _ => False)) (fun _ h => h.elim))
  have HB2 := Lib.hid (HB.out.upd (Upd.of_below hd (fun _ => False)) (fun h => h))
  have hgl2 : g < w2.heap.size := by have := hd.size; omega
  clear c1 hd HU HB hs1 hgl
  unfold B.cells
  go_wp2_with fail
  go_loopw [8, 9] (fun n i wr => ∃ (k : Nat) (t : Int) (b : B), k ≤ len ∧ i = .int .i64 k ∧ n = .int .u64 t ∧ ok64 t ∧ Hid (J b) ∧ Hid b.ok ∧ Hid (IsB wr g b) ∧ Hid (Blk wr w2.heap.size 38 b.cells) ∧ Hid (Upd (fun _ => False) w wr)) (fun _ i _ => len - (intOf i).toNat)
  case atStart =>
    refine ⟨0, 0, ⟨1, 0, sleep, force⟩, Nat.zero_le _, rfl, rfl, by simp [ok64, top], HJ0, Lib.hid ⟨by simp [ok64, top], HS.out⟩, Lib.hid (HB2.out.alloc _), Lib.hid (Blk.new _ _ _), Lib.hid (HU2.out.alloc _)⟩
  case round =>
    obtain ⟨k, t, b, hk, rfl, rfl, ht, hj, hbo, hib, hix, hu⟩ := hrel
    by_cases hc : k < len ∧ k < 100
    · obtain ⟨h1, h2⟩ := hc
      obtain ⟨d, hd⟩ : ∃ d, D[k]? = some d := ⟨D[k]'(by rw [HD.out]; exact h1), List.getElem?_eq_getElem _⟩
      obtain ⟨ab, ao, rfl, hab, r0, r1, r2⟩ := HR.out k d hd
      have hdt := HOK.out d (List.mem_of_getElem? hd)
      have hw : ∀ j, wr.cell? ⟨ab, j, none⟩ = w.cell? ⟨ab, j, none⟩ := fun j => World.cell?_of_block (w := w) (hu.out.block ab hab (fun h => h))
      have q0 := (hw _).trans r0
      have q1 := (hw _).trans r1
      have q2 := (hw _).trans r2
      have HT := Lib.hid ht
      have HDT := Lib.hid hdt
      clear hw hd ht hdt
      go_wp2_with fail
      refine (ref_add t d.t _ HT.out HDT.out).mono ?_
      rintro e w' ⟨rfl, rfl⟩
      go_wp2_with fail
      obtain ⟨s, u, p, q⟩ := b
      have hgr : g < wr.heap.size := hib.out.lt
      have hwr : w2.heap.size < wr.heap.size := hix.out.lt
      have hn1 : wr.heap.size ≠ w2.heap.size := by omega
      have hn2 : wr.heap.size ≠ ab := by omega
      have x0 : wr.cell? ⟨w2.heap.size, 0, none⟩ = some (.int .i64 s) := hix.out.cell 0
      have x1 : wr.cell? ⟨w2.heap.size, 1, none⟩ = some (.int .u64 u) := hix.out.cell 1
      have x2 : wr.cell? ⟨w2.heap.size, 2, none⟩ = some (.int .u64 p) := hix.out.cell 2
      have x3 : wr.cell? ⟨w2.heap.size, 3, none⟩ = some (.int .i64 q) := hix.out.cell 3
      go_region_held3 (fun w' => w'.cell? ⟨w2.heap.size, 0, none⟩ = some (.int .i64 s) ∧ w'.cell? ⟨w2.heap.size, 1, none⟩ = some (.int .u64 u) ∧ w'.cell? ⟨w2.heap.size, 2, none⟩ = some (.int .u64 p) ∧ w'.cell? ⟨w2.heap.size, 3, none⟩ = some (.int .i64 q) ∧ w'.cell? ⟨ab, ao + k * 3, none⟩ = some (.int .i64 d.k) ∧ w'.cell? ⟨ab, ao + k * 3 + 1, none⟩ = some (.int .u64 d.t) ∧ w'.cell? ⟨ab, ao + k * 3 + 2, none⟩ = some (.bool d.ok)) (go_keep) (first | (go_at_call 18; refine (do_at g s u p q (sadd t d.t) d.k d.t d.ok _ ((hib.out.alloc _).drew) hbo.out).mono ?_; rintro e w5 ⟨s2, u2, p2, q2, hact, rfl, hb5, hu5⟩; have hx5 : Blk w5 w2.heap.size 38 #[.int .i64 s, .int .u64 u, .int .u64 p, .int .i64 q] := Blk.upd ((hix.out.alloc _).drew) hu5 (by unfold At; omega); have hy5 : Blk w5 wr.heap.size 38 #[.int .i64 0, .int .u64 0, .int .u64 0, .int .i64 0] := Blk.upd (Blk.new wr _ 38).drew hu5 (by unfold At; omega); have yz := hy5.frz; have yc := hy5.cell; have hs5 : wr.heap.size < w5.heap.size := hy5.lt; have HY5 := Lib.hid hy5; clear hy5; have HU5 : Upd (At g) w w5 := ((hu.out.mono (S' := At g) (fun _ h => h.elim)).alloc _).drew.trans hu5 (fun _ h => .inl h); have z0 := hx5.cell 0; have z1 := hx5.cell 1; have z2 := hx5.cell 2; have z3 := hx5.cell 3; have z4 := (HU5.cellq (p := ⟨ab, ao + k * 3, none⟩) hab (by unfold At; show ¬ (ab = g); omega)).trans r0; have z5 := (HU5.cellq (p := ⟨ab, ao + k * 3 + 1, none⟩) hab (by unfold At; show ¬ (ab = g); omega)).trans r1; have z6 := (HU5.cellq (p := ⟨ab, ao + k * 3 + 2, none⟩) hab (by unfold At; show ¬ (ab = g); omega)).trans r2; have HZ := Lib.hid (And.intro hx5 (And.intro hb5 HU5)); clear hx5 hb5 hu5 HU5) | (go_at_call 18; refine (do_at g s u p q (sadd t d.t) d.k d.t d.ok _ (hib.out.drew) hbo.out).mono ?_; rintro e w5 ⟨s2, u2, p2, q2, hact, rfl, hb5, hu5⟩; have hx5 : Blk w5 w2.heap.size 38 #[.int .i64 s, .int .u64 u, .int .u64 p, .int .i64 q] := Blk.upd (hix.out.drew) hu5 (by unfold At; omega); have HU5 : Upd (At g) w w5 := ((hu.out.mono (S' := At g) (fun _ h => h.elim)).drew).trans hu5 (fun _ h => .inl h); have hs5 : wr.heap.size ≤ w5.heap.size := hu5.size; have z0 := hx5.cell 0; have z1 := hx5.cell 1; have z2 := hx5.cell 2; have z3 := hx5.cell 3; have z4 := (HU5.cellq (p := ⟨ab, ao + k * 3, none⟩) hab (by unfold At; show ¬ (ab = g); omega)).trans r0; have z5 := (HU5.cellq (p := ⟨ab, ao + k * 3 + 1, none⟩) hab (by unfold At; show ¬ (ab = g); omega)).trans r1; have z6 := (HU5.cellq (p := ⟨ab, ao + k * 3 + 2, none⟩) hab (by unfold At; show ¬ (ab = g); omega)).trans r2; have HZ := Lib.hid (And.intro hx5 (And.intro hb5 HU5)); clear hx5 hb5 hu5 HU5))
      · have hgy : g ≠ w5.heap.size := by have := HZ.out.2.1.lt; omega
        have hley : w.heap.size ≤ w5.heap.size := by omega
        have hxy : w2.heap.size ≠ w5.heap.size := by have := HZ.out.1.lt; omega
        have hok2 : B.ok ⟨s2, u2, p2, q2⟩ := by rw [← hact.out]; exact act_ok _ _ hbo.out (sadd_ok HT.out HDT.out)
        have hle2 : w.heap.size ≤ w2.heap.size := by omega
        have hgx : g ≠ w2.heap.size := by omega
        have hFX : B.cells ⟨s2, u2, p2, q2⟩ = #[.int .i64 s2, .int .u64 u2, .int .u64 p2, .int .i64 q2] := rfl
        have HOK2 := Lib.hid hok2
        have HFX := Lib.hid hFX
        have HU5 : Hid (Upd (fun _ => False) w w5) := HZ.out.2.2.mono (fun i h => .inr (by unfold At at h; omega))
        clear hok2 hFX
        have xfz := HZ.out.1.frz
        have hxl : w2.heap.size < w5.heap.size := HZ.out.1.lt
        go_wp2
        go_roundw
        case rel =>
          refine ⟨k + 1, _, ⟨s2, u2, p2, q2⟩, by omega, by go_num, rfl, sadd_ok HT.out HDT.out, Lib.hid (by rw [← hact.out]; exact HJ.out _ _ _ _ hj.out), HOK2, Lib.hid ?_, Lib.hid ?_, Lib.hid ?_⟩
          · exact ((((HZ.out.2.1.far hgx _).far hgx _).far hgx _).far hgx _).alloc _
          · exact ((((HZ.out.1.set 0 (.int .i64 s2)).set 1 (.int .u64 u2)).set 2 (.int .u64 p2)).set 3 (.int .i64 q2)).alloc _
          · exact ((((HU5.out.set (.inr hle2) _).set (.inr hle2) _).set (.inr hle2) _).set (.inr hle2) _).alloc _
        case measure => simp [intOf]; omega
      · have hgy : g ≠ wr.heap.size := by omega
        have hley : w.heap.size ≤ wr.heap.size := by omega
        have hxy : w2.heap.size ≠ wr.heap.size := by omega
        have hok2 : B.ok ⟨s2, u2, p2, q2⟩ := by rw [← hact.out]; exact act_ok _ _ hbo.out (sadd_ok HT.out HDT.out)
        have hle2 : w.heap.size ≤ w2.heap.size := by omega
        have hgx : g ≠ w2.heap.size := by omega
        have hFX : B.cells ⟨s2, u2, p2, q2⟩ = #[.int .i64 s2, .int .u64 u2, .int .u64 p2, .int .i64 q2] := rfl
        have HOK2 := Lib.hid hok2
        have HFX := Lib.hid hFX
        have HU5 : Hid (Upd (fun _ => False) w w5) := HZ.out.2.2.mono (fun i h => .inr (by unfold At at h; omega))
        clear hok2 hFX
        have xfz := HZ.out.1.frz
        have hxl : w2.heap.size < w5.heap.size := HZ.out.1.lt
        go_wp2
        go_roundw
        case rel =>
          refine ⟨k + 1, _, ⟨s2, u2, p2, q2⟩, by omega, by go_num, rfl, sadd_ok HT.out HDT.out, Lib.hid (by rw [← hact.out]; exact HJ.out _ _ _ _ hj.out), HOK2, Lib.hid ?_, Lib.hid ?_, Lib.hid ?_⟩
          · exact ((((((((HZ.out.2.1.far hgy _).far hgy _).far hgy _).far hgy _).far hgx _).far hgx _).far hgx _).far hgx _)
          · exact ((((((((HZ.out.1.far hxy _).far hxy _).far hxy _).far hxy _).set 0 (.int .i64 s2)).set 1 (.int .u64 u2)).set 2 (.int .u64 p2)).set 3 (.int .i64 q2))
          · exact ((((((((HU5.out.set (.inr hley) _).set (.inr hley) _).set (.inr hley) _).set (.inr hley) _).set (.inr hle2) _).set (.inr hle2) _).set (.inr hle2) _).set (.inr hle2) _)
        case measure => simp [intOf]; omega
    · have hge : w.heap.size ≤ g := by omega
      have HT := Lib.hid ht
      clear ht
      by_cases h1 : k < len
      · have h2 : ¬ k < 100 := fun h => hc ⟨h1, h⟩
        clear hc
        go_wp2
        go_ret2
        exact ⟨g, b, t, rfl, hib.out, hge, hbo.out, HT.out, hj.out, hu.out.below0⟩
      · clear hc
        go_wp2
        go_ret2
        exact ⟨g, b, t, rfl, hib.out, hge, hbo.out, HT.out, hj.out, hu.out.below0⟩

/-- A slice of deeds that came in. -/
theorem deeds_of {w : World} {A : Option Addr} {len : Nat} {L : List (List Value)} (hL : L.length = len) (hok : ∀ row ∈ L, Oks [.int .i64, .int .u64, .bool] row) (hr : Rows w A 3 L) :
    ∃ D : List Deed, D.length = len ∧ (∀ d ∈ D, ok64 d.t) ∧ DRows w A D := by
  obtain ⟨D, rfl, hD⟩ := decode_rows (enc := Deed.row) (P := fun d => ok64 d.t) (L := L) (fun row h => by
    obtain ⟨v0, r0, e0, ⟨k, rfl, _⟩, h1⟩ := (hok row h).cons
    obtain ⟨v1, r1, e1, ⟨t, rfl, wt⟩, h2⟩ := h1.cons
    obtain ⟨v2, r2, e2, ⟨b, rfl⟩, h3⟩ := h2.cons
    have e3 := h3.nil
    exact ⟨⟨k, t, b⟩, by rw [e0, e1, e2, e3]; rfl, bounds_u64 wt⟩)
  refine ⟨D, by simpa using hL, hD, fun i d hd => ?_⟩
  obtain ⟨b, o, hA, hb, hc⟩ := hr.plain (fun _ => by simp [Deed.row]) hd
  exact ⟨b, o, hA, hb, hc i d hd 0 _ rfl, hc i d hd 1 _ rfl, hc i d hd 2 _ rfl⟩
end Go.Proofs.Ytmihigkkicgkdaa
