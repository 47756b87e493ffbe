/- LatchStays -/
import Derived.Test.YtmpacmjlpkhgoaaLw
import Derived.Deep.RegionHeld3
namespace Go.Proofs.Ytmpacmjlpkhgoaa
open Go.RowKit
open Go.Maps (Keyed IsMap Tidy)
set_option linter.unusedVariables false
set_option linter.unusedSimpArgs false

theorem rsame_to {A A' : Option Addr} {n c c' : Nat} {l : List O5} (hn : l.length = n) (hm : n ≤ 1000) (w : World) (ha : Sl w A n c (fl o5 l)) (hb : Sl w A' n c' (fl o5 l)) :
    Calls Try.prog 17 #[.slice A n c, .slice A' n c'] w fun e w' => e = .returned (.bool true) ∧ Below w.heap.size w w' := rsame_any A A' n c c' l hn hm w ha hb
theorem all_to {g base n : Nat} {F : Nat → Prop} {L : List O5} (hl : L.length = n) (hn : n ≤ 1000) (w : World) (h : Log w g base F L) :
    Calls Try.prog 18 #[.pointer (some ⟨g, 0, none⟩)] w fun e w' => ∃ A c, e = .returned (.slice A n c) ∧ Sl w' A n c (fl o5 L) ∧ (∀ b o, A = some ⟨b, o, none⟩ → w.heap.size ≤ b) ∧ Upd (fun _ => False) w w' := by
  subst hl
  refine (all_any g base F L hn w h).mono ?_
  rintro e w' ⟨v, rfl, ho, hu⟩
  obtain ⟨A, c, rfl, hs, hb⟩ := Sl.of_own ho
  exact ⟨A, c, rfl, hs, hb, hu⟩
theorem since_to {g base k n : Nat} {F : Nat → Prop} {L D : List O5} {i : Int} (hk : (if i < 0 then 0 else if i > (L.length : Int) then L.length else i.toNat) = k) (hD : L.drop k = D) (hl : D.length = n) (hn : L.length ≤ 1000) (w : World) (h : Log w g base F L) :
    Calls Try.prog 19 #[.pointer (some ⟨g, 0, none⟩), .int .i64 i] w fun e w' => ∃ A c, e = .returned (.slice A n c) ∧ Sl w' A n c (fl o5 D) ∧ (∀ b o, A = some ⟨b, o, none⟩ → w.heap.size ≤ b) ∧ Upd (fun _ => False) w w' := by
  refine (since_any g base F L k i hk hn w h).mono ?_
  rintro e w' ⟨v, rfl, ho, hu⟩
  obtain ⟨A, c, rfl, hs, hb⟩ := Sl.of_own ho
  have e : L.length - k = n := by rw [← hl, ← hD, List.length_drop]
  rw [e, hD] at hs
  rw [e]
  exact ⟨A, c, rfl, hs, hb, hu⟩
/-- A slice lies off the log's place. -/
def Off (F : Nat → Prop) (A : Option Addr) : Prop := ∀ b o, A = some ⟨b, o, none⟩ → ¬ F b
theorem Off.grow {F F' : Nat → Prop} {A : Option Addr} {w : World} {n cap : Nat} {cs : List Value} (h : Off F A) (hs : Sl w A n cap cs) (hne : 0 < cs.length) (hf : ∀ k, F' k → F k ∨ w.heap.size ≤ k) : Off F' A := fun b o e hk => by
  rcases hf b hk with h1 | h1
  · exact h b o e h1
  · have := hs.lt hne e
    omega

set_option maxHeartbeats 4000000 in
theorem lstays_any (A : Option Addr) (len cap : Nat) (l : List O5) (hl : l.length = len) (hm : len ≤ 9223372036854775807) (hwf : Wf l) (M : Option Addr) (mlen mcap : Nat) (ms : List O5) (hml : ms.length = mlen) (hmm : mlen ≤ 9223372036854775807) (hmw : Wf ms) (w : World) (hs : Sl w A len cap (fl o5 l)) (hsm : Sl w M mlen mcap (fl o5 ms)) :
    Calls Try.prog 5 #[.slice A len cap, .slice M mlen mcap] w fun e w' => e = .returned (.bool true) ∧ Below w.heap.size w w' := by
  have HSM := Lib.hid hsm
  have HML := Lib.hid hml
  have HMW := Lib.hid hmw
  clear hsm hml hmw
  have HS := Lib.hid hs
  have HL := Lib.hid hl
  have HW := Lib.hid hwf
  clear hs hl hwf
  go_enter Try.func5, Try.ntmps5
  go_wp2_with fail
  refine (awake_any _).mono ?_
  rintro e w0 ⟨rfl, hd⟩
  have U0 := Lib.hid (Upd.of_below hd (fun _ => False))
  clear hd
  go_wp2_with fail
  refine (ran_any A len cap l HL.out hm HW.out _ (HS.out.upd0 U0.out)).mono ?_
  rintro e w1 ⟨g, F, rfl, hg, hd⟩
  have G1 := Lib.hid hg
  have U1 := Lib.hid (U0.out.trans (Upd.of_below hd (fun _ => False)) (fun _ h => h.elim))
  have hLL : Hid ((lfold [] (l.take 100)).length ≤ 100) := Lib.hid (by have := fold_len (l.take 100) []; simp at this; omega)
  clear hg hd
  obtain ⟨L, hL⟩ : ∃ L, L = lfold [] (l.take 100) := ⟨_, rfl⟩
  rw [← hL] at G1 hLL
  clear hL
  obtain ⟨n, hn⟩ : ∃ n, L.length = n := ⟨_, rfl⟩
  have HN := Lib.hid hn
  have hn1 : n ≤ 100 := by have := hLL.out; omega
  clear hn
  go_wp2_with fail
  refine (all_to HN.out (Nat.le_trans hn1 (by decide)) _ G1.out).mono ?_
  rintro e w2 ⟨A2, c2, rfl, hs2, hb2, hu⟩
  have U2 := Lib.hid (U1.out.trans hu (fun _ h => h.elim))
  have G2 := Lib.hid (G1.out.upd0 hu)
  have S2 := Lib.hid hs2
  have O2 : Hid (Off F A2) := Lib.hid (fun b o e h => by have := (G1.out.ge b h).2; have := hb2 b o e; omega)
  have U0' : Hid (w.heap.size ≤ w0.heap.size) := Lib.hid U0.out.size
  clear hs2 hb2 hu G1 U1 U0
  go_wp2_with fail
  go_loopw [8] (fun i wr => ∃ (k : Nat) (F : Nat → Prop), k ≤ mlen ∧ k ≤ 100 ∧ i = .int .i64 k ∧ Hid (Log wr g w0.heap.size F (lfold L (ms.take k))) ∧ Hid (Sl wr A2 n c2 (fl o5 L)) ∧ Hid (0 < n → Off F A2) ∧ Hid (Upd (fun _ => False) w wr)) (fun i _ => 100 - (intOf i).toNat)
  case atStart => exact ⟨0, F, Nat.zero_le _, Nat.zero_le _, rfl, G2, S2, Lib.hid (fun _ => O2.out), U2⟩
  case round =>
    obtain ⟨k, F, hk, hk2, rfl, hg, hsl, hof, hu⟩ := hrel
    have HLE : Hid ((lfold L (ms.take k)).length ≤ 1000) := Lib.hid (by have := fold_len (ms.take k) L; have := HN.out; simp at *; omega)
    by_cases h1 : k < mlen ∧ k < 100
    · obtain ⟨h1, h2⟩ := h1
      obtain ⟨o, ho⟩ : ∃ o, ms[k]? = some o := ⟨ms[k]'(by have := HML.out; omega), List.getElem?_eq_getElem _⟩
      obtain ⟨b, of, e, hb, hc⟩ := (HSM.out.upd0 hu.out).row o5_len (by decide) ho
      obtain ⟨oi, ok, oc, ov, oa⟩ := o
      have d0 := hc 0 _ rfl
      have d1 := hc 1 _ rfl
      have d2 := hc 2 _ rfl
      have d3 := hc 3 _ rfl
      have d4 := hc 4 _ rfl
      simp only [Nat.add_zero, ← Nat.add_assoc] at d0 d1 d2 d3 d4
      have i0 : (0 : Int) ≤ (k : Int) := Int.natCast_nonneg _
      have i1 : (k : Int) < (mlen : Int) := by omega
      obtain ⟨L', is, hem⟩ : ∃ L' is, lemit (lfold L (ms.take k)) (oi, ok, oc, ov, oa) = (L', is) := ⟨_, _, rfl⟩
      have HEM := Lib.hid hem
      have HLF : Hid (lfold L (ms.take (k + 1)) = L') := Lib.hid (by rw [take_snoc ho, lfold_snoc, hem])
      have HWI : Hid ((Lit.int .i64 oi).wf = true) := Lib.hid (HMW.out _ (List.mem_of_getElem? ho))
      subst e
      clear ho hc hem
      go_wp2_with (go_at_call 11; refine (emit_to _ _ _ _ _ HEM.out HWI.out HLE.out _ hg.out).mono ?_; rintro e w3 ⟨F2, rfl, hl, hu2, hf⟩; have HL3 := Lib.hid hl; have HF3 := Lib.hid hf; have HU3 := Lib.hid hu2; clear hl hu2 hf)
      go_roundw
      case rel =>
        refine ⟨k + 1, F2, by omega, by omega, by go_num, Lib.hid (by rw [HLF.out]; exact HL3.out), Lib.hid ?_, Lib.hid ?_, Lib.hid (hu.out.trans HU3.out (fun k hk => .inr (Nat.le_trans U0'.out (hg.out.ge k hk).1)))⟩
        · rcases Nat.eq_zero_or_pos n with hz | hz
          · have hL0 : L = [] := List.eq_nil_of_length_eq_zero (by rw [HN.out]; exact hz)
            have := hsl.out
            rw [hL0] at this ⊢
            exact ⟨this.le, this.cm, this.nil, .inl rfl⟩
          · exact hsl.out.upd HU3.out (hof.out hz)
        · intro hz
          exact (hof.out hz).grow hsl.out (by rw [fl_len o5_len, HN.out]; omega) HF3.out
      case measure => simp [intOf]; omega
    · obtain ⟨L', hL'⟩ : ∃ L', lfold L (ms.take k) = L' := ⟨_, rfl⟩
      rw [hL'] at hg HLE
      obtain ⟨t, ht⟩ := fold_pre (ms.take k) L
      rw [hL'] at ht
      obtain ⟨n', hn'⟩ : ∃ n', L'.length = n' := ⟨_, rfl⟩
      have HN' := Lib.hid hn'
      have HLE' : n' ≤ 1000 := by have := HLE.out; omega
      have hnn : n ≤ n' := by have := HN.out; rw [ht] at hn'; simp at hn'; omega
      have HT1 : Hid (L'.take n = L) := Lib.hid (by rw [ht, ← HN.out]; simp)
      clear hL' hn' ht
      have hfin : ¬ (k < mlen ∧ k < 100) := h1
      by_cases h3 : k < mlen
      · have hk100 : k = 100 := by omega
        subst hk100
        clear hfin h1
        go_wp2_with fail
        refine (all_to HN'.out HLE' _ hg.out).mono ?_
        rintro e w5 ⟨A3, c3, rfl, hs3, hb3, hu3⟩
        have S3 := Lib.hid hs3
        have G5 := Lib.hid (hg.out.upd0 hu3)
        have S5 := Lib.hid (hsl.out.upd0 hu3)
        have U5 := Lib.hid (hu.out.trans hu3 (fun _ h => h.elim))
        have T3 : Hid (Sl w5 A3 n c3 (fl o5 L)) := Lib.hid (by have := S3.out.take o5_len n hnn; rwa [HT1.out] at this)
        have hc3 : n' ≤ c3 := hs3.le
        have hc4 : n ≤ c3 := by omega
        have HD : Hid ((L'.drop n).length = n' - n) := Lib.hid (by rw [List.length_drop, HN'.out])
        have HI : Hid ((if (n : Int) < 0 then 0 else if (n : Int) > (L'.length : Int) then L'.length else (n : Int).toNat) = n) := Lib.hid (by rw [HN'.out, if_neg (by omega), if_neg (by omega)]; simp)
        clear hs3 hb3 hu3
        have hnn' : ¬ (n' : Int) < (n : Int) := by omega
        have hdm : n' - n ≤ 1000 := by omega
        by_cases hcc : c3 = n
        · obtain rfl : n' = n := by omega
          subst hcc
          have DR : Hid (Sl w5 A3 0 0 (fl o5 (L'.drop c3))) := Lib.hid (S3.out.drop_cap c3 (Nat.le_refl _) rfl HN'.out)
          have HD0 : Hid ((L'.drop c3).length = 0) := Lib.hid (by rw [HD.out]; omega)
          go_wp2_with fail
          go_region_held3 (fun w' => True) (trivial) (first | (go_at_call 19; refine (since_to HI.out rfl HD0.out HLE.out _ (G5.out.upd0 ((Upd.refl _ _).drew.trans U6.out (fun _ h => h.elim)))).mono ?_; rintro e w7 ⟨A4, c4, rfl, hs4, hb4, hu4⟩; have S7 := Lib.hid hs4; have U7 : Hid (Upd (fun _ => False) w5 w7) := Lib.hid (((Upd.refl _ w5).drew.trans U6.out (fun _ h => h.elim)).trans hu4 (fun _ h => h.elim)); clear hs4 hb4 hu4) | (go_at_call 17; refine (rsame_to HD0.out (by decide) _ S7.out (DR.out.upd0 U7.out)).mono ?_; rintro e w8 ⟨rfl, hd⟩; have U8 := Lib.hid (U7.out.trans (Upd.of_below hd (fun _ => False)) (fun _ h => h.elim)); clear hd) | (go_at_call 17; refine (rsame_to HN.out (by omega) _ (T3.out.drew) (S5.out.drew)).mono ?_; rintro e w6 ⟨rfl, hd⟩; have U6 := Lib.hid (Upd.of_below hd (fun _ => False)); clear hd))
          go_wp2
          go_ret
          exact ⟨rfl, (U5.out.trans U8.out (fun _ h => h.elim)).below0⟩
        · have DR : Hid (Sl w5 (A3.map (fun x => x.add (n * 5))) (n' - n) (c3 - n) (fl o5 (L'.drop n))) := Lib.hid (S3.out.drop o5_len n hnn)
          go_wp2_with fail
          go_region_held3 (fun w' => True) (trivial) (first | (go_at_call 19; refine (since_to HI.out rfl HD.out HLE.out _ (G5.out.upd0 ((Upd.refl _ _).drew.trans U6.out (fun _ h => h.elim)))).mono ?_; rintro e w7 ⟨A4, c4, rfl, hs4, hb4, hu4⟩; have S7 := Lib.hid hs4; have U7 : Hid (Upd (fun _ => False) w5 w7) := Lib.hid (((Upd.refl _ w5).drew.trans U6.out (fun _ h => h.elim)).trans hu4 (fun _ h => h.elim)); clear hs4 hb4 hu4) | (go_at_call 17; refine (rsame_to HD.out hdm _ S7.out (DR.out.upd0 U7.out)).mono ?_; rintro e w8 ⟨rfl, hd⟩; have U8 := Lib.hid (U7.out.trans (Upd.of_below hd (fun _ => False)) (fun _ h => h.elim)); clear hd) | (go_at_call 17; refine (rsame_to HN.out (by omega) _ (T3.out.drew) (S5.out.drew)).mono ?_; rintro e w6 ⟨rfl, hd⟩; have U6 := Lib.hid (Upd.of_below hd (fun _ => False)); clear hd))
          go_wp2
          go_ret
          exact ⟨rfl, (U5.out.trans U8.out (fun _ h => h.elim)).below0⟩
      · have h4 : ¬ (k : Int) < (mlen : Int) := by omega
        clear hfin h1
        go_wp2_with fail
        refine (all_to HN'.out HLE' _ hg.out).mono ?_
        rintro e w5 ⟨A3, c3, rfl, hs3, hb3, hu3⟩
        have S3 := Lib.hid hs3
        have G5 := Lib.hid (hg.out.upd0 hu3)
        have S5 := Lib.hid (hsl.out.upd0 hu3)
        have U5 := Lib.hid (hu.out.trans hu3 (fun _ h => h.elim))
        have T3 : Hid (Sl w5 A3 n c3 (fl o5 L)) := Lib.hid (by have := S3.out.take o5_len n hnn; rwa [HT1.out] at this)
        have hc3 : n' ≤ c3 := hs3.le
        have hc4 : n ≤ c3 := by omega
        have HD : Hid ((L'.drop n).length = n' - n) := Lib.hid (by rw [List.length_drop, HN'.out])
        have HI : Hid ((if (n : Int) < 0 then 0 else if (n : Int) > (L'.length : Int) then L'.length else (n : Int).toNat) = n) := Lib.hid (by rw [HN'.out, if_neg (by omega), if_neg (by omega)]; simp)
        clear hs3 hb3 hu3
        have hnn' : ¬ (n' : Int) < (n : Int) := by omega
        have hdm : n' - n ≤ 1000 := by omega
        by_cases hcc : c3 = n
        · obtain rfl : n' = n := by omega
          subst hcc
          have DR : Hid (Sl w5 A3 0 0 (fl o5 (L'.drop c3))) := Lib.hid (S3.out.drop_cap c3 (Nat.le_refl _) rfl HN'.out)
          have HD0 : Hid ((L'.drop c3).length = 0) := Lib.hid (by rw [HD.out]; omega)
          go_wp2_with fail
          go_region_held3 (fun w' => True) (trivial) (first | (go_at_call 19; refine (since_to HI.out rfl HD0.out HLE.out _ (G5.out.upd0 ((Upd.refl _ _).drew.trans U6.out (fun _ h => h.elim)))).mono ?_; rintro e w7 ⟨A4, c4, rfl, hs4, hb4, hu4⟩; have S7 := Lib.hid hs4; have U7 : Hid (Upd (fun _ => False) w5 w7) := Lib.hid (((Upd.refl _ w5).drew.trans U6.out (fun _ h => h.elim)).trans hu4 (fun _ h => h.elim)); clear hs4 hb4 hu4) | (go_at_call 17; refine (rsame_to HD0.out (by decide) _ S7.out (DR.out.upd0 U7.out)).mono ?_; rintro e w8 ⟨rfl, hd⟩; have U8 := Lib.hid (U7.out.trans (Upd.of_below hd (fun _ => False)) (fun _ h => h.elim)); clear hd) | (go_at_call 17; refine (rsame_to HN.out (by omega) _ (T3.out.drew) (S5.out.drew)).mono ?_; rintro e w6 ⟨rfl, hd⟩; have U6 := Lib.hid (Upd.of_below hd (fun _ => False)); clear hd))
          go_wp2
          go_ret
          exact ⟨rfl, (U5.out.trans U8.out (fun _ h => h.elim)).below0⟩
        · have DR : Hid (Sl w5 (A3.map (fun x => x.add (n * 5))) (n' - n) (c3 - n) (fl o5 (L'.drop n))) := Lib.hid (S3.out.drop o5_len n hnn)
          go_wp2_with fail
          go_region_held3 (fun w' => True) (trivial) (first | (go_at_call 19; refine (since_to HI.out rfl HD.out HLE.out _ (G5.out.upd0 ((Upd.refl _ _).drew.trans U6.out (fun _ h => h.elim)))).mono ?_; rintro e w7 ⟨A4, c4, rfl, hs4, hb4, hu4⟩; have S7 := Lib.hid hs4; have U7 : Hid (Upd (fun _ => False) w5 w7) := Lib.hid (((Upd.refl _ w5).drew.trans U6.out (fun _ h => h.elim)).trans hu4 (fun _ h => h.elim)); clear hs4 hb4 hu4) | (go_at_call 17; refine (rsame_to HD.out hdm _ S7.out (DR.out.upd0 U7.out)).mono ?_; rintro e w8 ⟨rfl, hd⟩; have U8 := Lib.hid (U7.out.trans (Upd.of_below hd (fun _ => False)) (fun _ h => h.elim)); clear hd) | (go_at_call 17; refine (rsame_to HN.out (by omega) _ (T3.out.drew) (S5.out.drew)).mono ?_; rintro e w6 ⟨rfl, hd⟩; have U6 := Lib.hid (Upd.of_below hd (fun _ => False)); clear hd))
          go_wp2
          go_ret
          exact ⟨rfl, (U5.out.trans U8.out (fun _ h => h.elim)).below0⟩
end Go.Proofs.Ytmpacmjlpkhgoaa
