/- A law's own form of a batch, as the document has it. -/
import Derived.Test.YtnpecnljibeddaaProg
import Derived.Test.YtnpecnljibeddaaIvs
import Derived.Test.YtnpecnljibeddaaAp
import Derived.Test.YtnpecnljibeddaaSa
import Derived.Test.YtnpecnljibeddaaOw
import Derived.Deep.RegionHeld3
import Derived.LoopTactic
import Derived.WalkSpells
import Derived.KernelRfl
namespace Go.Proofs.Ytnpecnljibeddaa
open Go.RowKit
set_option linter.unusedVariables false
set_option linter.unusedSimpArgs false

theorem infoMr : (Try.prog.info? 78).map (fun i => (i.zero, i.size, i.bytes)) = some (some (.agg #[.int .i64 0, .int .i64 0]), 2, 16) := by kernel_rfl
theorem own_at {x : Value} {gg n cp H B : Nat} (hat : x.ownBlock = some gg ∨ gg = H) (hB : B ≤ H) : ∀ k, (Value.slice (some ⟨gg, 0, none⟩) n cp).ownBlock = some k → x.ownBlock = some k ∨ B ≤ k := by
  intro k hk
  have e : gg = k := by simpa [Value.ownBlock] using hk
  subst e
  rcases hat with h | h
  · exact .inl h
  · exact .inr (by omega)
theorem take_pr' {l : List (Int × Int)} {k : Nat} {p q : Int} (h : l[k]? = some (p, q)) : prs (l.take (k + 1)) = prs (l.take k) ++ [.int .i64 p, .int .i64 q] := by
  rw [take_snoc h, prs_app]
  rfl

set_option maxRecDepth 100000 in
set_option maxHeartbeats 4000000 in
theorem real_own (A M : Option Addr) (n c m d : Nat) (ms : List (Int × Int)) (hm : ms.length = m) (hm1 : m ≤ 1000) (w : World) (hs : Sl w M m d (prs ms)) :
    Calls Try.prog 16 #[.agg #[.slice A n c, .slice M m d]] w fun e w' => ∃ M' d', e = .returned (.agg #[.slice A n c, .slice M' m d']) ∧ (∃ ob, w.heap.size ≤ ob ∧ w'.ownsRow ob 78 2 (.slice M' m d') m (prs ms)) ∧ Below w.heap.size w w' := by
  have HM := Lib.hid hm
  have HS := Lib.hid hs
  clear hm hs
  obtain ⟨i0, hj, hz0, hz1, hz2⟩ := info_parts infoMr
  go_enter Try.func16, Try.ntmps16
  go_wp2
  refine Code.gen (fun W => Blk W (w.heap.size) 40 #[.slice A n c, .slice M m d] ∧ Blk W (w.heap.size + 1 + 1) 30 #[.slice A n c, .slice none 0 0] ∧ Blk W (w.heap.size + 1) 30 #[.slice none 0 0, .slice none 0 0] ∧ Upd (fun _ => False) w W ∧ w.heap.size + 3 ≤ W.heap.size) ⟨by first | exact ((Blk.new w _ _).alloc _).alloc _ | exact (((Blk.new w _ _).alloc _).alloc _), Blk.new2 w _ _ _ _, (Blk.new1 w _ _ _).alloc _, (by repeat (first | exact Upd.refl _ _ | refine Upd.alloc ?_ _ | refine Upd.drew ?_ | refine Upd.drewN ?_ _ | refine Upd.put ?_ _ _)), by simp <;> omega⟩ ?_
  rintro W1 ⟨ba, bb, bz, uw, hwb⟩
  have BA1 := Lib.hid ba
  have BB1 := Lib.hid bb
  have BZ1 := Lib.hid bz
  have UW1 := Lib.hid uw
  clear ba bb bz uw
  go_loopw [4] (fun i wr => ∃ (k : Nat) (V : Option Addr) (vc : Nat), k ≤ m ∧ W1.heap.size ≤ wr.heap.size ∧ i = .int .i64 k ∧ Hid (wr.ownsRow W1.heap.size 78 2 (.slice V k vc) k (prs (ms.take k))) ∧ Hid (Blk wr (w.heap.size + 1 + 1) 30 #[.slice A n c, .slice V k vc]) ∧ Hid (Blk wr (w.heap.size) 40 #[.slice A n c, .slice M m d]) ∧ Hid (Blk wr (w.heap.size + 1) 30 #[.slice none 0 0, .slice none 0 0]) ∧ Hid (Upd (fun _ => False) w wr)) (fun i _ => m - (intOf i).toNat)
  case atStart => exact ⟨0, none, 0, Nat.zero_le _, Nat.le_refl _, rfl, Lib.hid (own_nil _ _ _ _), BB1, BA1, BZ1, UW1⟩
  case round =>
    obtain ⟨k, V, vc, hk, hbase, rfl, RO, BB, BA, BZ, UW⟩ := hrel
    by_cases hlt : k < m
    · obtain ⟨⟨p, q⟩, hx⟩ : ∃ x, ms[k]? = some x := ⟨ms[k]'(by rw [HM.out]; exact hlt), List.getElem?_eq_getElem _⟩
      obtain ⟨mb, mo, e, hmb, hz8, hz9⟩ := HS.out.pr hx
      obtain ⟨mb2, mo2, e2, hmb', c0, c1⟩ := (HS.out.upd0 UW.out).pr hx
      rw [e] at e2
      injection e2 with e2
      injection e2 with e3 e4 e5
      subst e3
      subst e4
      subst e
      simp only at c0 c1
      have HX0 := Lib.hid hx
      have HX : Hid (∀ k_, (Value.slice V k vc).ownBlock = some k_ → k_ < wr.heap.size) := Lib.hid (fun k_ h => own_lt RO.out h)
      have i0' : (0 : Int) ≤ (k : Int) := Int.natCast_nonneg _
      have i1' : (k : Int) < (m : Int) := by omega
      have hwB : w.heap.size ≤ W1.heap.size := by omega
      have hmB : mb < W1.heap.size := by omega
      have ba1 := BA.out.cell 1
      clear hx e5 hz8 hz9
      go_wp2_with fail
      clear ba1
      refine wp_region_invS (by kernel_rfl) (by kernel_rfl) (fun kb_ => (.slice V k vc : Value).ownBlock = some kb_) 16 (fun (j_ : Nat) (v_ : Value) (w_ : World) => (match j_ with | 0 => v_ = .pointer (some ⟨w.heap.size + 1 + 1, 1, none⟩) | 1 => v_ = .slice V k vc | 2 => v_ = .pointer (some ⟨w.heap.size, 1, none⟩) | 3 => v_ = .slice (some ⟨mb, mo, none⟩) m d | 4 => v_ = .int .i64 (k : Int) | 5 => v_ = .pointer (some ⟨mb, mo + k * 2, none⟩) | 6 => v_ = .pointer (some ⟨mb, mo + k * 2, none⟩) | 7 => v_ = .int .i64 p | 8 => v_ = .pointer (some ⟨w.heap.size, 1, none⟩) | 9 => v_ = .slice (some ⟨mb, mo, none⟩) m d | 10 => v_ = .int .i64 (k : Int) | 11 => v_ = .pointer (some ⟨mb, mo + k * 2, none⟩) | 12 => v_ = .pointer (some ⟨mb, mo + k * 2 + 1, none⟩) | 13 => v_ = .int .i64 q | 14 => v_ = .agg #[.int .i64 p, .int .i64 q] | 15 => ∃ h_, v_ = .slice (some ⟨h_, 0, none⟩) 1 1 ∧ wr.heap.size ≤ h_ ∧ Blk w_ h_ 78 ([.int .i64 p, .int .i64 q]).toArray | 16 => w_.ownsRow W1.heap.size 78 2 v_ (k + 1) (prs (ms.take (k + 1))) ∧ ∀ k_, v_.ownBlock = some k_ → (.slice V k vc : Value).ownBlock = some k_ ∨ wr.heap.size ≤ k_ | 17 => v_ = .pointer (some ⟨w.heap.size + 1 + 1, 1, none⟩) | _ => True : Prop)) ?_ ?_ ?_
      · intro j v w1_ w2_ h hB hu h0
        rcases j with _ | _ | _ | _ | _ | _ | _ | _ | _ | _ | _ | _ | _ | _ | _ | _ | _ | _ | j
        · exact h
        · exact h
        · exact h
        · exact h
        · exact h
        · exact h
        · exact h
        · exact h
        · exact h
        · exact h
        · exact h
        · exact h
        · exact h
        · exact h
        · exact h
        · obtain ⟨ib_, h1, h2, h3⟩ := h
          exact ⟨ib_, h1, h2, h3.upd hu (fun hs => absurd (HX.out ib_ hs) (Nat.not_lt.2 h2))⟩
        · obtain ⟨h1, h2⟩ := h
          exact ⟨own_upd0 h1 (h0 rfl), h2⟩
        · exact h
        · trivial
      · intro j o kd_ ho hne hkd_ a w' lm hF hlm hD
        have hjn : j < 18 := by
          have := (Array.getElem?_eq_some_iff.1 ho).1
          simp at this hne
          omega
        have hBo := hF.upd.size
        simp only [World.size_drew] at hBo
        have q1 := ((BA.out.drew).upd hF.upd (own_sep RO.out BA.out (by decide))).cell 1
        have q3 := ((BB.out.drew).upd hF.upd (own_sep RO.out BB.out (by decide))).cell 1
        have r0 := (hF.upd.cellq (p := ⟨mb, mo + k * 2, none⟩) hmb' (fun h => absurd (own_ge RO.out h) (Nat.not_le.2 hmB))).trans c0
        have r1 := (hF.upd.cellq (p := ⟨mb, mo + k * 2 + 1, none⟩) hmb' (fun h => absurd (own_ge RO.out h) (Nat.not_le.2 hmB))).trans c1
        have s1 : a.tmps.getD 1 undef = .pointer (some ⟨w.heap.size, 0, none⟩) := hF.keep 1 (by kernel_rfl)
        have s3 : a.tmps.getD 3 undef = .pointer (some ⟨w.heap.size + 1 + 1, 0, none⟩) := hF.keep 3 (by kernel_rfl)
        have s4 : a.tmps.getD 4 undef = .int .i64 (k : Int) := hF.keep 4 (by kernel_rfl)
        rcases j with _ | _ | _ | _ | _ | _ | _ | _ | _ | _ | _ | _ | _ | _ | _ | _ | _ | _ | j
        all_goals (try (exfalso; omega))
        all_goals simp at ho
        all_goals subst ho
        all_goals simp at hkd_
        all_goals (try subst hkd_)
        · skip
          unfold Oper.wp
          go_simp
          exact ⟨_, rfl, Upd.refl _ _, Upd.refl _ _, rfl⟩
        · skip
          have f0 : a.tmps.getD 15 undef = .pointer (some ⟨w.heap.size + 1 + 1, 1, none⟩) := hD ⟨0, .data⟩ (by simp) rfl _ _ rfl rfl
          unfold Oper.wp
          go_simp
          exact ⟨_, rfl, Upd.refl _ _, Upd.refl _ _, rfl⟩
        · skip
          unfold Oper.wp
          go_simp
          exact ⟨_, rfl, Upd.refl _ _, Upd.refl _ _, rfl⟩
        · skip
          have f2 : a.tmps.getD 17 undef = .pointer (some ⟨w.heap.size, 1, none⟩) := hD ⟨2, .data⟩ (by simp) rfl _ _ rfl rfl
          unfold Oper.wp
          go_simp
          exact ⟨_, rfl, Upd.refl _ _, Upd.refl _ _, rfl⟩
        · skip
          unfold Oper.wp
          go_simp
          exact ⟨_, rfl, Upd.refl _ _, Upd.refl _ _, rfl⟩
        · skip
          have f3 : a.tmps.getD 18 undef = .slice (some ⟨mb, mo, none⟩) m d := hD ⟨3, .data⟩ (by simp) rfl _ _ rfl rfl
          have f4 : a.tmps.getD 19 undef = .int .i64 (k : Int) := hD ⟨4, .data⟩ (by simp) rfl _ _ rfl rfl
          unfold Oper.wp
          go_simp
          exact ⟨_, rfl, Upd.refl _ _, Upd.refl _ _, rfl⟩
        · skip
          have f5 : a.tmps.getD 20 undef = .pointer (some ⟨mb, mo + k * 2, none⟩) := hD ⟨5, .data⟩ (by simp) rfl _ _ rfl rfl
          unfold Oper.wp
          go_simp
          exact ⟨_, rfl, Upd.refl _ _, Upd.refl _ _, rfl⟩
        · skip
          have f6 : a.tmps.getD 21 undef = .pointer (some ⟨mb, mo + k * 2, none⟩) := hD ⟨6, .data⟩ (by simp) rfl _ _ rfl rfl
          unfold Oper.wp
          go_simp
          exact ⟨_, rfl, Upd.refl _ _, Upd.refl _ _, rfl⟩
        · skip
          unfold Oper.wp
          go_simp
          exact ⟨_, rfl, Upd.refl _ _, Upd.refl _ _, rfl⟩
        · skip
          have f8 : a.tmps.getD 23 undef = .pointer (some ⟨w.heap.size, 1, none⟩) := hD ⟨8, .data⟩ (by simp) rfl _ _ rfl rfl
          unfold Oper.wp
          go_simp
          exact ⟨_, rfl, Upd.refl _ _, Upd.refl _ _, rfl⟩
        · skip
          unfold Oper.wp
          go_simp
          exact ⟨_, rfl, Upd.refl _ _, Upd.refl _ _, rfl⟩
        · skip
          have f9 : a.tmps.getD 24 undef = .slice (some ⟨mb, mo, none⟩) m d := hD ⟨9, .data⟩ (by simp) rfl _ _ rfl rfl
          have f10 : a.tmps.getD 25 undef = .int .i64 (k : Int) := hD ⟨10, .data⟩ (by simp) rfl _ _ rfl rfl
          unfold Oper.wp
          go_simp
          exact ⟨_, rfl, Upd.refl _ _, Upd.refl _ _, rfl⟩
        · skip
          have f11 : a.tmps.getD 26 undef = .pointer (some ⟨mb, mo + k * 2, none⟩) := hD ⟨11, .data⟩ (by simp) rfl _ _ rfl rfl
          unfold Oper.wp
          go_simp
          exact ⟨_, rfl, Upd.refl _ _, Upd.refl _ _, rfl⟩
        · skip
          have f12 : a.tmps.getD 27 undef = .pointer (some ⟨mb, mo + k * 2 + 1, none⟩) := hD ⟨12, .data⟩ (by simp) rfl _ _ rfl rfl
          unfold Oper.wp
          go_simp
          exact ⟨_, rfl, Upd.refl _ _, Upd.refl _ _, rfl⟩
        · skip
          have f7 : a.tmps.getD 22 undef = .int .i64 p := hD ⟨7, .data⟩ (by simp) rfl _ _ rfl rfl
          have f13 : a.tmps.getD 28 undef = .int .i64 q := hD ⟨13, .data⟩ (by simp) rfl _ _ rfl rfl
          have g7 : a.tmps[22]?.getD undef = .int .i64 p := by rw [← Array.getD_eq_getD_getElem?]; exact f7
          have g13 : a.tmps[28]?.getD undef = .int .i64 q := by rw [← Array.getD_eq_getD_getElem?]; exact f13
          unfold Oper.wp
          go_simp
          exact ⟨_, rfl, Upd.refl _ _, Upd.refl _ _, rfl⟩
        · skip
          have f14 : a.tmps.getD 29 undef = .agg #[.int .i64 p, .int .i64 q] := hD ⟨14, .data⟩ (by simp) rfl _ _ rfl rfl
          have g14 : a.tmps[29]?.getD undef = .agg #[.int .i64 p, .int .i64 q] := by rw [← Array.getD_eq_getD_getElem?]; exact f14
          unfold Oper.wp
          go_simp
          exact ⟨_, rfl, (Upd.refl _ _).alloc _, (Upd.refl _ _).alloc _, ⟨w'.heap.size, rfl, hBo, Blk.new _ _ _⟩⟩
        · skip
          have f1 : a.tmps.getD 16 undef = .slice V k vc := hD ⟨1, .data⟩ (by simp) rfl _ _ rfl rfl
          obtain ⟨h, f15, hh, hbk⟩ : ∃ h_, a.tmps.getD 30 undef = .slice (some ⟨h_, 0, none⟩) 1 1 ∧ wr.heap.size ≤ h_ ∧ Blk w' h_ 78 ([.int .i64 p, .int .i64 q]).toArray := hD ⟨15, .data⟩ (by simp) rfl _ _ rfl rfl
          have hrow := own_upd0 (own_drew RO.out) (hF.upd0 (hlm rfl))
          exact wp_append_lies w' (.tmp 16) (.tmp 30) _ rfl (W1.heap.size) 78 i0 (.agg #[.int .i64 0, .int .i64 0]) 2 16 Try.underlying28 hj hz0 hz1 hz2 rfl (by decide) (.slice V k vc) (k) (prs (ms.take k)) f1 hrow ⟨h, 0, none⟩ 1 1 ([.int .i64 p, .int .i64 q]) f15 rfl hbk.news (by intro u hu; simp at hu; rcases hu with rfl | rfl <;> rfl) (by omega) (by unfold maxLen; omega) (by omega) (by omega) w'.heap.size rfl (fun gg cp w6 hown hgrow hat hlt => ⟨_, rfl, Upd.of_grown hgrow, fun hne => absurd rfl hne, ⟨by rw [take_pr' HX0.out]; exact hown, own_at hat hBo⟩⟩)
        · skip
          unfold Oper.wp
          go_simp
          exact ⟨_, rfl, Upd.refl _ _, Upd.refl _ _, rfl⟩
      · intro o ho a w' lm hF hD
        have fP : a.tmps.getD 32 undef = .pointer (some ⟨w.heap.size + 1 + 1, 1, none⟩) := hD 17 _ _ rfl (by simp) rfl
        have h78 : w'.ownsRow W1.heap.size 78 2 (a.tmps.getD 31 undef) (k + 1) (prs (ms.take (k + 1))) ∧ ∀ k_, (a.tmps.getD 31 undef).ownBlock = some k_ → (.slice V k vc : Value).ownBlock = some k_ ∨ wr.heap.size ≤ k_ := hD 16 _ _ rfl (by simp) rfl
        obtain ⟨v', e7⟩ : ∃ v, a.tmps.getD 31 undef = v := ⟨_, rfl⟩
        rw [e7] at h78
        obtain ⟨V', vc', rfl, hsx, hbx⟩ := Sl.of_own h78.1
        clear hsx hbx
        have H7 := Lib.hid h78.1
        have hBo : wr.heap.size ≤ w'.heap.size := by have := hF.upd.size; simpa using this
        have KA := Lib.hid ((BA.out.drew).upd hF.upd (own_sep RO.out BA.out (by decide)))
        have KB := Lib.hid ((BB.out.drew).upd hF.upd (own_sep RO.out BB.out (by decide)))
        have KZ := Lib.hid ((BZ.out.drew).upd hF.upd (fun h => absurd (own_ge RO.out h) (Nat.not_le.2 (by omega))))
        have KU : Hid (Upd (fun _ => False) w w') := Lib.hid ((UW.out.drew).trans hF.upd (fun i hi => .inr (Nat.le_trans hwB (own_ge RO.out hi))))
        have hcg := KB.out.cell 1
        have hfg := KB.out.frz
        have hlg := KB.out.lt
        have HF := Lib.hid hF
        clear hF hD h78
        have ho' := Option.some.inj ho
        clear ho
        subst ho'
        unfold Oper.wp
        go_simp
        rename_i hK1
        refine hK1 _ _ ?_
        clear hK1
        rw [HF.out.act [false, false, false, false, false, false, false, false, false, false, false, false, false, false, false, true, true, true, true, true, true, true, true, true, true, true, true, true, true, true, true, true, true, false] (by kernel_rfl)]
        simp only [pickv, Nat.reduceAdd, Nat.zero_add]
        clear e7 fP HF
        generalize a.tmps.getD 15 undef = u15
        generalize a.tmps.getD 16 undef = u16
        generalize a.tmps.getD 17 undef = u17
        generalize a.tmps.getD 18 undef = u18
        generalize a.tmps.getD 19 undef = u19
        generalize a.tmps.getD 20 undef = u20
        generalize a.tmps.getD 21 undef = u21
        generalize a.tmps.getD 22 undef = u22
        generalize a.tmps.getD 23 undef = u23
        generalize a.tmps.getD 24 undef = u24
        generalize a.tmps.getD 25 undef = u25
        generalize a.tmps.getD 26 undef = u26
        generalize a.tmps.getD 27 undef = u27
        generalize a.tmps.getD 28 undef = u28
        generalize a.tmps.getD 29 undef = u29
        generalize a.tmps.getD 30 undef = u30
        generalize a.tmps.getD 31 undef = u31
        generalize a.tmps.getD 32 undef = u32
        clear hcg hfg hlg
        go_wp2
        go_roundw
        case rel => exact ⟨k + 1, V', vc', by omega, by rw [World.size_setCell]; omega, by go_num, Lib.hid (own_far (p := ⟨w.heap.size + 1 + 1, 1, none⟩) H7.out (own_sep H7.out KB.out (by decide)) _), Lib.hid (KB.out.set 1 _), Lib.hid (KA.out.far (p := ⟨w.heap.size + 1 + 1, 1, none⟩) (show w.heap.size ≠ w.heap.size + 1 + 1 by omega) _), Lib.hid (KZ.out.far (p := ⟨w.heap.size + 1 + 1, 1, none⟩) (show w.heap.size + 1 ≠ w.heap.size + 1 + 1 by omega) _), Lib.hid (KU.out.set (p := ⟨w.heap.size + 1 + 1, 1, none⟩) (.inr (show w.heap.size ≤ w.heap.size + 1 + 1 by omega)) _)⟩
        case measure => simp [intOf]; omega
    · have hkm : k = m := by omega
      subst hkm
      have HMT : Hid (ms.take k = ms) := Lib.hid (List.take_of_length_le (by rw [HM.out]; exact Nat.le_refl _))
      have y0 := BA.out.cell 0
      have y1 := BA.out.cell 1
      have x0 := BB.out.cell 0
      have x1 := BB.out.cell 1
      have z0 := BZ.out.cell 0
      have z1 := BZ.out.cell 1
      have lz := BZ.out.lt
      have fz := BZ.out.frz
      have ZF : Hid (Blk ((wr.setCell ⟨w.heap.size + 1, 0, none⟩ (.slice A n c)).setCell ⟨w.heap.size + 1, 1, none⟩ (.slice V k vc)) (w.heap.size + 1) 30 #[.slice A n c, .slice V k vc]) := Lib.hid ((BZ.out.set 0 (.slice A n c)).set 1 (.slice V k vc))
      have UF : Hid (Upd (fun _ => False) w ((wr.setCell ⟨w.heap.size + 1, 0, none⟩ (.slice A n c)).setCell ⟨w.heap.size + 1, 1, none⟩ (.slice V k vc))) := Lib.hid ((UW.out.set (p := ⟨w.heap.size + 1, 0, none⟩) (.inr (Nat.le_succ _)) (.slice A n c)).set (p := ⟨w.heap.size + 1, 1, none⟩) (.inr (Nat.le_succ _)) (.slice V k vc))
      have c0 : ((wr.setCell ⟨w.heap.size + 1, 0, none⟩ (.slice A n c)).setCell ⟨w.heap.size + 1, 1, none⟩ (.slice V k vc)).cell? ⟨w.heap.size + 1, 0, none⟩ = some (.slice A n c) := ZF.out.cell 0
      have c1 : ((wr.setCell ⟨w.heap.size + 1, 0, none⟩ (.slice A n c)).setCell ⟨w.heap.size + 1, 1, none⟩ (.slice V k vc)).cell? ⟨w.heap.size + 1, 1, none⟩ = some (.slice V k vc) := ZF.out.cell 1
      go_wp2
      have hq := RO.out
      rw [HMT.out] at hq
      refine bodyPost_ret (v := .agg #[.slice A n c, .slice V k vc]) (by simp [results, Try.results16, go_sem, c0, c1, lz]) rfl ⟨V, vc, rfl, ⟨W1.heap.size, ?_, own_upd hq (((Upd.refl (At (w.heap.size + 1)) wr).put 0 (.slice A n c)).put 1 (.slice V k vc)) (fun b e h => absurd h (Nat.ne_of_gt (by have := own_ge RO.out e; omega)))⟩, UF.out.below0⟩
      omega
theorem real_to {A M : Option Addr} {n c m d : Nat} {ms : List (Int × Int)} (hm : ms.length = m) (hm1 : m ≤ 1000) (w : World) (hs : Sl w M m d (prs ms)) :
    Calls Try.prog 16 #[.agg #[.slice A n c, .slice M m d]] w fun e w' => ∃ M' d', e = .returned (.agg #[.slice A n c, .slice M' m d']) ∧ Sl w' M' m d' (prs ms) ∧ Below w.heap.size w w' := by
  refine (real_own A M n c m d ms hm hm1 w hs).mono ?_
  rintro e w' ⟨M', d', rfl, ⟨ob, _, ho⟩, hb⟩
  obtain ⟨V2, vc2, e, hsv, _⟩ := Sl.of_own ho
  injection e with e1 e2 e3
  subst e1
  subst e3
  exact ⟨M', d', rfl, hsv, hb⟩
end Go.Proofs.Ytnpecnljibeddaa
