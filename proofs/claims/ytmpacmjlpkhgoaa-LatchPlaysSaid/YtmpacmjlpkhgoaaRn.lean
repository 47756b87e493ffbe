/- A log behind outcomes; what is always so. -/
import Derived.Test.YtmpacmjlpkhgoaaLg
namespace Go.Proofs.Ytmpacmjlpkhgoaa
open Go.RowKit
open Go.Maps (Keyed IsMap Tidy)
set_option linter.unusedVariables false
set_option linter.unusedSimpArgs false

/-- Outcomes whose ids are whole numbers. -/
def Wf (l : List O5) : Prop := ∀ o ∈ l, (Lit.int .i64 o.1).wf = true
theorem emit_to {g base : Nat} {F : Nat → Prop} {L L' : List O5} {ok : Bool} (id kd cs vl at_ : Int) (he : lemit L (id, kd, cs, vl, at_) = (L', ok)) (hid : (Lit.int .i64 id).wf = true) (hn : L.length ≤ 1000) (w : World) (h : Log w g base F L) :
    Calls Try.prog 11 #[.pointer (some ⟨g, 0, none⟩), .agg #[.int .i64 id, .int .i64 kd, .int .i64 cs, .int .i64 vl, .int .u64 at_]] w fun e w' => ∃ F', e = .returned (.bool ok) ∧ Log w' g base F' L' ∧ Upd F w w' ∧ (∀ k, F' k → F k ∨ w.heap.size ≤ k) := by
  have := emit_any g base F L (id, kd, cs, vl, at_) hid hn w h
  rwa [he] at this
theorem of_to {g base : Nat} {F : Nat → Prop} {L : List O5} {id a b c d e : Int} {is : Bool} (hg : lget L id = if is then some (a, b, c, d, e) else none) (h0 : is = false → a = 0 ∧ b = 0 ∧ c = 0 ∧ d = 0 ∧ e = 0) (hid : (Lit.int .i64 id).wf = true) (hn : L.length ≤ 1000) (w : World) (h : Log w g base F L) :
    Calls Try.prog 13 #[.pointer (some ⟨g, 0, none⟩), .int .i64 id] w fun e' w' => e' = .returned (.tuple #[.agg #[.int .i64 a, .int .i64 b, .int .i64 c, .int .i64 d, .int .u64 e], .bool is]) ∧ Below w.heap.size w w' := by
  have := of_any g base F L id hid hn w h
  cases is with
  | true => rw [hg] at this; exact this
  | false =>
    obtain ⟨rfl, rfl, rfl, rfl, rfl⟩ := h0 rfl
    rw [hg] at this
    exact this
theorem may_to {id kd cs vl at_ : Int} {b : Bool} (hb : omay (id, kd, cs, vl, at_) = b) (w : World) : Calls Try.prog 15 #[.agg #[.int .i64 id, .int .i64 kd, .int .i64 cs, .int .i64 vl, .int .u64 at_]] w fun e w' => e = .returned (.bool b) ∧ Below w.heap.size w w' := by
  have := may_any id kd cs vl at_ w
  rwa [hb] at this

set_option maxHeartbeats 1000000 in
theorem awake_any (w : World) : Calls Try.prog 9 #[] w fun e w' => e = .returned (.bool true) ∧ Below w.heap.size w w' := by
  go_enter Try.func9, Try.ntmps9
  go_wp2_with fail
  refine (new_any _).mono ?_
  rintro e w1 ⟨g, F, rfl, hl, hd⟩
  have HL := Lib.hid hl
  have HU := Lib.hid (Upd.of_below hd (fun _ => False))
  clear hl hd
  go_wp2_with fail
  refine (emit_to (L' := [(5, 1, 0, 7, 0)]) (ok := true) 5 1 0 7 0 (by rfl) (by decide) (by simp) _ HL.out).mono ?_
  rintro e w2 ⟨F2, rfl, hl, hu, hf⟩
  have HL2 := Lib.hid hl
  have HU2 : Hid (Upd (fun _ => False) w w2) := Lib.hid (HU.out.trans hu (fun k hk => .inr (HL.out.ge k hk).1))
  clear hl hu hf HL HU
  go_wp2_with fail
  refine (emit_to (L' := [(5, 1, 0, 7, 0)]) (ok := false) 5 4 2 0 0 (by rfl) (by decide) (by simp) _ HL2.out).mono ?_
  rintro e w3 ⟨F3, rfl, hl, hu, hf⟩
  have HL3 := Lib.hid hl
  have HU3 : Hid (Upd (fun _ => False) w w3) := Lib.hid (HU2.out.trans hu (fun k hk => .inr (HL2.out.ge k hk).1))
  clear hl hu hf HL2 HU2
  go_wp2_with fail
  refine (of_to (is := true) (a := 5) (b := 1) (c := 0) (d := 7) (e := 0) (by rfl) (fun h => by cases h) (by decide) (by simp) _ HL3.out).mono ?_
  rintro e w4 ⟨rfl, hd⟩
  have HL4 : Hid (Log (w4.alloc (.cells #[.int .i64 5, .int .i64 1, .int .i64 0, .int .i64 7, .int .u64 0] 29)) g w.heap.size F3 [(5, 1, 0, 7, 0)]) := Lib.hid ((HL3.out.upd0 (Upd.of_below hd (fun _ => False))).upd0 ((Upd.refl _ _).alloc _))
  have HU4 : Hid (Upd (fun _ => False) w w4) := Lib.hid (HU3.out.trans (Upd.of_below hd (fun _ => False)) (fun _ h => h.elim))
  clear hd HL3 HU3
  go_wp2_with fail
  refine (all_any g _ _ _ (by simp) _ HL4.out).mono ?_
  rintro e w5 ⟨v, rfl, ho, hu⟩
  obtain ⟨A, cap, rfl, hs, _⟩ := Sl.of_own ho
  have HU5 : Hid (Upd (fun _ => False) w w5) := Lib.hid ((HU4.out.alloc _).trans hu (fun _ h => h.elim))
  clear hu ho hs HL4 HU4
  go_wp2_with fail
  refine (may_to (b := false) (by rfl) _).mono ?_
  rintro e w6 ⟨rfl, hd⟩
  have HU6 : Hid (Upd (fun _ => False) w w6) := Lib.hid (HU5.out.trans (Upd.of_below hd (fun _ => False)) (fun _ h => h.elim))
  clear hd HU5
  go_wp2
  go_ret
  exact ⟨rfl, HU6.out.below0⟩

set_option maxHeartbeats 1000000 in
/-- A log behind the first hundred. -/
theorem ran_any (A : Option Addr) (len cap : Nat) (l : List O5) (hl : l.length = len) (hm : len ≤ 9223372036854775807) (hwf : Wf l) (w : World) (hs : Sl w A len cap (fl o5 l)) :
    Calls Try.prog 20 #[.slice A len cap] w fun e w' => ∃ g F, e = .returned (.pointer (some ⟨g, 0, none⟩)) ∧ Log w' g w.heap.size F (lfold [] (l.take 100)) ∧ Below w.heap.size w w' := by
  have HS := Lib.hid hs
  have HL := Lib.hid hl
  have HW := Lib.hid hwf
  clear hs hl hwf
  go_enter Try.func20, Try.ntmps20
  go_wp2_with fail
  refine (new_any _).mono ?_
  rintro e w1 ⟨g, F, rfl, hl, hd⟩
  have L1 := Lib.hid hl
  have U1 := Lib.hid (Upd.of_below hd (fun _ => False))
  clear hl hd
  go_wp2_with fail
  go_loopw [4] (fun i wr => ∃ (k : Nat) (F : Nat → Prop), k ≤ len ∧ k ≤ 100 ∧ i = .int .i64 k ∧ Hid (Log wr g w.heap.size F (lfold [] (l.take k))) ∧ Hid (Upd (fun _ => False) w wr)) (fun i _ => 100 - (intOf i).toNat)
  case atStart => exact ⟨0, F, Nat.zero_le _, Nat.zero_le _, rfl, L1, U1⟩
  case round =>
    obtain ⟨k, F, hk, hk2, rfl, hg, hu⟩ := hrel
    by_cases h1 : k < len
    · by_cases h2 : k < 100
      · obtain ⟨o, ho⟩ : ∃ o, l[k]? = some o := ⟨l[k]'(by have := HL.out; omega), List.getElem?_eq_getElem _⟩
        obtain ⟨b, of, e, hb, hc⟩ := (HS.out.upd0 hu.out).row o5_len (by decide) ho
        obtain ⟨oi, ok, oc, ov, oa⟩ := o
        have d0 := hc 0 _ rfl
        have d1 := hc 1 _ rfl
        have d2 := hc 2 _ rfl
        have d3 := hc 3 _ rfl
        have d4 := hc 4 _ rfl
        simp only [Nat.add_zero, ← Nat.add_assoc] at d0 d1 d2 d3 d4
        have i0 : (0 : Int) ≤ (k : Int) := Int.natCast_nonneg _
        have i1 : (k : Int) < (len : Int) := by omega
        obtain ⟨L', is, hem⟩ : ∃ L' is, lemit (lfold [] (l.take k)) (oi, ok, oc, ov, oa) = (L', is) := ⟨_, _, rfl⟩
        have HEM := Lib.hid hem
        have HLF : Hid (lfold [] (l.take (k + 1)) = L') := Lib.hid (by rw [take_snoc ho, lfold_snoc, hem])
        have HWI : Hid ((Lit.int .i64 oi).wf = true) := Lib.hid (HW.out _ (List.mem_of_getElem? ho))
        have hle : (lfold [] (l.take k)).length ≤ 1000 := by have := fold_len (l.take k) []; simp at this; omega
        subst e
        clear ho hc hem
        go_wp2_with (go_at_call 11; refine (emit_to _ _ _ _ _ HEM.out HWI.out hle _ hg.out).mono ?_; rintro e w2 ⟨F2, rfl, hl, hu2, hf⟩; have HL2 := Lib.hid hl; have HU2 : Hid (Upd (fun _ => False) w w2) := Lib.hid (hu.out.trans hu2 (fun k hk => .inr (hg.out.ge k hk).1)); clear hl hu2 hf)
        go_roundw
        case rel => exact ⟨k + 1, F2, by omega, by omega, by go_num, Lib.hid (by rw [HLF.out]; exact HL2.out), HU2⟩
        case measure => simp [intOf]; omega
      · have hk100 : k = 100 := by omega
        subst hk100
        go_wp2
        go_ret
        exact ⟨g, F, rfl, hg.out, hu.out.below0⟩
    · have HT : Hid (l.take 100 = l.take k) := Lib.hid (by have := HL.out; rw [List.take_of_length_le (by omega), List.take_of_length_le (by omega)])
      go_wp2
      go_ret
      exact ⟨g, F, rfl, by rw [HT.out]; exact hg.out, hu.out.below0⟩
end Go.Proofs.Ytmpacmjlpkhgoaa
