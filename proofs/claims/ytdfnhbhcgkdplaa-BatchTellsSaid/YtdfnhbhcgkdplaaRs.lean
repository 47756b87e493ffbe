/- The document's Split. -/
import Derived.Test.YtdfnhbhcgkdplaaSm
import Derived.Test.YtdfnhbhcgkdplaaSp
namespace Go.Proofs.Ytdfnhbhcgkdplaa
open Go.RowKit
set_option linter.unusedVariables false
set_option linter.unusedSimpArgs false

theorem infoI5 : (Try.prog.info? 3).map (fun i => (i.zero, i.size, i.bytes)) = some (some (.int .i64 0), 1, 8) := by kernel_rfl
/-- What the document's Split hands back. -/
def RSplitPost (n : Nat) (ms : List (Int × Int)) (vals : List Int) (w : World) (e : Ending) (w' : World) : Prop :=
  (∃ l A c, vals.length = n ∧ psplit vals ms = some l ∧ e = .returned (.tuple #[.slice A l.length c, .bool true]) ∧ Sl w' A l.length c (nums (l.map Prod.snd)) ∧ Below w.heap.size w w') ∨
  ((vals.length ≠ n ∨ psplit vals ms = none) ∧ e = .returned (.tuple #[.slice none 0 0, .bool false]) ∧ Below w.heap.size w w')

set_option maxRecDepth 100000 in
set_option maxHeartbeats 4000000 in
theorem rsplit_any (A M V : Option Addr) (c d q n m vl : Nat) (ms : List (Int × Int)) (vals : List Int) (hm0 : ms.length = m) (hv0 : vals.length = vl) (hn : n ≤ 9223372036854775807) (hml : m ≤ 1000) (hvl : vl ≤ 1000) (w : World) (hm : Sl w M m d (prs ms)) (hv : Sl w V vl q (nums vals)) :
    Calls Try.prog 15 #[.agg #[.slice A n c, .slice M m d], .slice V vl q] w (RSplitPost n ms vals w) := by
  have HM := Lib.hid hm
  have HV := Lib.hid hv
  have HML := Lib.hid hm0
  have HVL := Lib.hid hv0
  obtain ⟨i0, hj, hz0, hz1, hz2⟩ := info_parts infoI5
  clear hm hv hm0 hv0
  by_cases hne : vl = n
  · subst hne
    go_enter Try.func15, Try.ntmps15
    go_wp2_with fail
    go_loopw [6, 7, 8] (fun l i kv wr => ∃ (k : Nat) (A' : Option Addr) (cap : Nat) (outs : List (Int × Int)), k ≤ m ∧ l = .slice A' k cap ∧ i = .int .i64 k ∧ Hid (psplit vals (ms.take k) = some outs) ∧ Hid (wr.ownsRow (w.heap.size + 1) 3 1 (.slice A' k cap) k (nums (outs.map Prod.snd))) ∧ Hid (Upd (fun _ => False) w wr) ∧ w.heap.size < wr.heap.size ∧ Hid (Blk wr w.heap.size 25 #[.slice A vl c, .slice M m d])) (fun _ i _ _ => m - (intOf i).toNat)
    case atStart =>
      exact ⟨0, none, 0, [], Nat.zero_le _, rfl, rfl, Lib.hid rfl, Lib.hid (own_nil _ _ _ _), Lib.hid (by repeat (first | exact Upd.refl _ _ | refine Upd.alloc ?_ _ | refine Upd.drew ?_ | refine Upd.drewN ?_ _ | refine Upd.put ?_ _ _)), by simp, Lib.hid (Blk.new _ _ _)⟩
    case round =>
      obtain ⟨k, A', cap, outs, hk, rfl, rfl, hps, hown, hu, hsz, hbb⟩ := hrel
      have cb := hbb.out.cell
      have y1 := cb 1
      by_cases hlt : k < m
      · obtain ⟨p, hp⟩ : ∃ p, ms[k]? = some p := ⟨ms[k]'(by rw [HML.out]; exact hlt), List.getElem?_eq_getElem _⟩
        obtain ⟨mb, mo, rfl, hmb, m0, m1⟩ := HM.out.pr hp
        have q0 := (hu.out.cellq (p := ⟨mb, mo + k * 2, none⟩) hmb (fun h => h)).trans m0
        have q1 := (hu.out.cellq (p := ⟨mb, mo + k * 2 + 1, none⟩) hmb (fun h => h)).trans m1
        have i0' : (0 : Int) ≤ (k : Int) := Int.natCast_nonneg _
        have i1' : (k : Int) < (m : Int) := by omega
        cases hx : vat vals p.2 with
        | none =>
          have HN := Lib.hid (psplit_none hx hp)
          have hr := vat_none hx
          rw [HVL.out] at hr
          clear hp hx m0 m1
          by_cases hneg : p.2 < 0
          · clear hr
            go_wp2
            go_ret2
            exact .inr ⟨.inr HN.out, rfl, hu.out.below0⟩
          · have hge : (vl : Int) ≤ p.2 := by omega
            clear hr
            go_wp2
            go_ret2
            exact .inr ⟨.inr HN.out, rfl, hu.out.below0⟩
        | some x =>
          obtain ⟨g0, g1, g2⟩ := vat_some hx
          obtain ⟨vb, vo, rfl, hvb, v0⟩ := HV.out.num g2
          have p0 := (hu.out.cellq (p := ⟨vb, vo + p.2.toNat, none⟩) hvb (fun h => h)).trans v0
          have HS := Lib.hid (by rw [take_snoc hp]; exact psplit_snoc hx hps.out : psplit vals (ms.take (k + 1)) = some (outs ++ [(p.1, x)]))
          have hnn : ¬ p.2 < 0 := by omega
          have hnl : ¬ (vl : Int) ≤ p.2 := by rw [HVL.out] at g1; omega
          have hlt2 : p.2 < (vl : Int) := by omega
          clear hp hx m0 m1 g2 v0
          go_wp2_with (at_builtin; go_loud (refine wpList_append_lies _ rfl _ _ 22 rfl (w.heap.size + 1) 3 i0 (.int .i64 0) 1 8 Try.underlying22 hj hz0 hz1 hz2 rfl (by decide) (.slice A' k cap) k (nums (outs.map Prod.snd)) rfl (hown.out.alloc _) ⟨wr.heap.size, 0, none⟩ 1 1 [.int .i64 x] rfl rfl (Blk.new wr #[.int .i64 x] 3).news ?c5 (by omega) ?c7 ?c8 ?c9 (wr.heap.size + 1) (by simp) ?_); (case c5 => intro u hu; simp at hu; subst hu; rfl); (case c7 => unfold maxLen; omega); (case c8 => omega); (case c9 => simp; omega); intro gg2 cp w6 hown6 hgrow hat hlt6; have hu6 := Upd.of_grown hgrow; have hs6 : w.heap.size < w6.heap.size := (by have := hu6.size; simp at this; omega); have OB : Hid (w6.ownsRow (w.heap.size + 1) 3 1 (.slice (some ⟨gg2, 0, none⟩) (k + 1) cp) (k + 1) (nums ((outs ++ [(p.1, x)]).map Prod.snd))) := Lib.hid (by rw [List.map_append, nums_app]; exact hown6); have UB : Hid (Upd (fun _ => False) w w6) := Lib.hid ((hu.out.alloc _).trans hu6 (fun i h => .inr (by have := own_ge hown.out h; omega))); have BB := Lib.hid ((hbb.out.alloc (.cells #[.int .i64 x] 3)).upd hu6 (own_ne hown.out (Nat.lt_succ_self _))); clear hown6 hgrow hat hu6)
          go_roundw
          case rel => exact ⟨k + 1, some ⟨gg2, 0, none⟩, cp, _, by omega, rfl, by go_num, HS, OB, UB, hs6, BB⟩
          case measure => simp [intOf]; omega
      · have hkl : k = m := by omega
        subst hkl
        have HPS : Hid (psplit vals ms = some outs) := by have h := hps.out; rwa [List.take_of_length_le (by rw [HML.out]; exact Nat.le_refl _)] at h
        have HL := Lib.hid ((psplit_len HPS.out).trans HML.out)
        go_wp2
        go_ret2
        obtain ⟨A2, c2, e, hs, _⟩ := Sl.of_own hown.out
        injection e with e1 e2 e3
        subst e1
        subst e3
        exact .inl ⟨outs, A', cap, HVL.out, HPS.out, (by rw [HL.out]; rfl), by rw [HL.out]; exact hs, hu.out.below0⟩
  · have hb : ((vl : Int) != (n : Int)) = true := by simp; omega
    have hN := Lib.hid hne
    clear hne
    go_enter Try.func15, Try.ntmps15
    go_wp2
    go_ret2
    exact .inr ⟨.inl (by rw [HVL.out]; exact hN.out), rfl, (by refine Upd.below0 ?_; repeat (first | exact Upd.refl _ _ | refine Upd.alloc ?_ _ | refine Upd.drew ?_ | refine Upd.drewN ?_ _))⟩
end Go.Proofs.Ytdfnhbhcgkdplaa
