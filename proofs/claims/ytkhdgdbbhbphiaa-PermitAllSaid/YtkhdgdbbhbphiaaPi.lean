/- maps.Keys' iterator over holders: it gives each holder once. -/
import Derived.Test.YtkhdgdbbhbphiaaPm
import Derived.RangeFuncGives
import Derived.Sort.MapsRangeIn
import Derived.Sort.KeysCollected
import Derived.OwnWalkIn
import Derived.TacticsInMore
import Derived.RegionIn
import Derived.LoopNIn
import Derived.LoopIn
import Derived.Maps.AppendAt
namespace Go.Proofs.Ytkhdgdbbhbphiaa
open Go.RowKit Go.Maps
set_option linter.unusedVariables false
set_option linter.unusedSimpArgs false

theorem kl1 {n : Nat} {a : Value} {l : List Lit} (h : Try.prog.keyLits (n + 1) 3 [a] = some l) : ∃ x : Int, a = .int .i64 x ∧ (Lit.int .i64 x).wf = true ∧ l = [.int .i64 x] := by
  unfold Program.keyLits at h
  rw [Try.underlying3] at h
  cases a <;> simp at h
  rename_i q x
  obtain ⟨⟨rfl, hw⟩, rfl⟩ := h
  exact ⟨x, rfl, hw, rfl⟩
/-- What reads as a key is a holder. -/
theorem hkey_inv {v : Value} {kl : Lit} (h : keyOf Try.prog 31 v = some kl) : ∃ x : H2, v = hval x ∧ hok x ∧ kl = hkl x := by
  unfold keyOf at h
  rw [Try.underlying31] at h
  simp only at h
  split at h
  · rename_i hc
    simp only [Bool.and_eq_true] at hc
    obtain ⟨_, hf⟩ := hc
    obtain ⟨ls, hls, rfl⟩ := Option.map_eq_some_iff.1 h
    have hsz : ∃ n, Try.prog.types.size + 1 = n + 2 := ⟨Try.prog.types.size - 1, by have : 0 < Try.prog.types.size := of_decide_eq_true (by kernel_rfl); omega⟩
    obtain ⟨n, hn⟩ := hsz
    cases v with
    | agg cs =>
      obtain ⟨cs⟩ := cs
      simp only [Value.formed, Try.underlying31, cellsH, beq_iff_eq] at hf
      match cs, hf with
      | [a, b], _ =>
        rw [hn] at hls
        unfold Program.keyLits at hls
        rw [Try.underlying31] at hls
        simp [Value.cells, cellsH, cellsI] at hls
        cases h1 : Try.prog.keyLits (n + 1) 3 [a] with
        | none => rw [h1] at hls; simp at hls
        | some l1 =>
          cases h2 : Try.prog.keyLits (n + 1) 3 [b] with
          | none => rw [h1, h2] at hls; simp at hls
          | some l2 =>
            rw [h1, h2] at hls
            obtain ⟨x, rfl, hx, rfl⟩ := kl1 h1
            obtain ⟨y, rfl, hy, rfl⟩ := kl1 h2
            simp at hls
            subst hls
            exact ⟨(x, y), rfl, ⟨hx, hy⟩, rfl⟩
    | _ => simp [Value.formed, Try.underlying31] at hf
  · cases h
/-- No holder twice; one has come just where the map has it and it is no longer to come. -/
def Coll {H : Type} (D : DataW H) (left : Lit → Bool) (xs : List H2) : Prop := xs.Nodup ∧ (∀ x ∈ xs, hok x) ∧ ∀ x, hok x → (x ∈ xs ↔ (Maps.has D (hkl x) = true ∧ left (hkl x) = false))
theorem Coll.start {H : Type} (D : DataW H) : Coll D (Maps.has D) [] := ⟨List.nodup_nil, (fun x h => by cases h), fun x _ => by cases Maps.has D (hkl x) <;> simp⟩
theorem Coll.step {H : Type} {D : DataW H} {left : Lit → Bool} {xs : List H2} (h : Coll D left xs) {x : H2} (hx : hok x) {y : DataW H} (hlk : left (hkl x) = true) (hat : ∀ zd, D.atKey (hkl x) zd = y) : Coll D (fun z => left z && !z.sameKey (hkl x)) (xs ++ [x]) := by
  have hhas : Maps.has D (hkl x) = true := Maps.has_true_of_atKey hat
  have hnew : x ∉ xs := fun hm => by have := ((h.2.2 x hx).1 hm).2; rw [hlk] at this; cases this
  refine ⟨List.nodup_append.2 ⟨h.1, by simp, fun a ha b hb => by simp at hb; subst hb; exact fun e => hnew (e ▸ ha)⟩, fun z hz => ?_, fun y hy => ?_⟩
  · rcases List.mem_append.1 hz with hz | hz
    · exact h.2.1 z hz
    · simp at hz; subst hz; exact hx
  · by_cases he : y = x
    · subst he; simp [hhas, WideAt.sameKey_self (hklit.key y)]
    · have hs : (hkl y).sameKey (hkl x) = false := by
        cases hc : (hkl y).sameKey (hkl x) with
        | false => rfl
        | true => exact absurd (hklit.inj _ _ hy hx (WideAt.sameKey_eq hc)) he
      simp [h.2.2 y hy, he, hs]
theorem Coll.perm {w : World} {b n : Nat} {D : DataW Value} {left : Lit → Bool} {xs hs : List H2} (h : Coll D left xs) (hm : Mp w Try.prog 31 b n D) (hl : Lk hkl hok D (hmap hs)) (hd : hs.Nodup) (ho : ∀ x ∈ hs, hok x) (h0 : ∀ kl, left kl = false) : xs.Perm hs := by
  refine (List.perm_ext_iff_of_nodup h.1 hd).2 fun x => ?_
  have key : ∀ x, hok x → (x ∈ xs ↔ x ∈ hs) := fun x hx => by
    rw [h.2.2 x hx, h0, hm.has_iff keyH (hkey hx), hl.at_ hklit hx, lk_hmap]
    by_cases hc : x ∈ hs <;> simp [hc]
  constructor
  · exact fun hx => (key x (h.2.1 x hx)).1 hx
  · exact fun hx => (key x (ho x hx)).2 hx
set_option maxRecDepth 100000 in
set_option maxHeartbeats 2000000 in
theorem keysN_in (F : Fence) (n : Nat) (h33 : F.fn 33) (hro : F.round = none) (hn : 1 ≤ n) (l Bm b nn : Nat) (D0 : DataW Value) (J : List H2 → World → Prop)
    (hY : ∀ pre x W, J pre W → pre.length < Maps.size D0 → YieldAt F (n - 1) Try.prog l #[hval x] W fun e W' => e = .returned (.bool true) ∧ J (pre ++ [x]) W' ∧ KeepsWalks W W')
    (W : World) (hJ : AbidesFrom W.heap.size J) (hm : W.cell? ⟨Bm, 0, none⟩ = some (.map (some b))) (hown : Mp W Try.prog 31 b nn D0) (h0 : J [] W) {hs : List H2} (hl : Lk hkl hok D0 (hmap hs)) (hd : hs.Nodup) (ho : ∀ x ∈ hs, hok x) :
    CallsIn F n Try.prog 33 #[.func (.yield l) #[] #[], .pointer (some ⟨Bm, 0, none⟩)] W fun e W' => (∃ v, e = .returned v) ∧ ∃ ss : List H2, ss.Perm hs ∧ J ss W' := by
  refine callsIn_of_wp Try.func33 rfl h33 ?_ hro
  simp only [Try.ntmps33, List.size_toArray, List.length_cons, List.length_nil, Nat.reduceAdd, Nat.reduceSub, Array.replicate_succ, Array.replicate_zero, List.push_toArray, List.append_toArray, List.nil_append, List.cons_append]
  gi_wp2_with (first
    | (gi_at_range; refine wpListIn_range_own _ rfl _ 49 rfl 31 4 keyH Try.underlying49 _ b nn _ rfl hown ?_; intro w0 hrg0 hg0 hs0)
    | gi_in)
  go_frame
  gi_loopw [3] (fun _ wr => ∃ (left : Lit → Bool) (cnt : Nat) (ss : List H2), wr.ranges Try.prog 31 hv b W.heap.size nn D0 left cnt ∧ ss.length + cnt ≤ Maps.size D0 ∧ Coll D0 left ss ∧ J ss wr)
    (fun _ wr => wr.rangeLeft b W.heap.size)
  case atStart =>
    exact ⟨_, _, [], hrg0, by simp, Coll.start D0, hJ [] W w0 none h0 hg0 (fun r e => by cases e)⟩
  case round =>
    obtain ⟨left, cnt, ss, hrg, hcs, hC, hJs⟩ := hrel
    gi_wp2_with (first
      | (gi_at_next; refine wpListIn_next_ranges _ rfl _ rfl 31 keyH hv hval id (fun key kl hk => by obtain ⟨x, hx, _⟩ := hkey_inv hk; exact ⟨x, hx⟩) (fun v y hv => ⟨v, rfl⟩) b W.heap.size nn _ _ _ rfl hrg ?_ ?_)
      | gi_in)
    · intro hc0 hl0
      gi_wp2
      go_end0
      exact ⟨⟨_, rfl⟩, ss, hC.perm hown hl hd ho hl0, hJs⟩
    · intro xa xb c kl yd yp w2 cnt2 hkey_ hlk hv_ hat hrg2 hlt hg2 hs2 hen
      obtain ⟨x', ex, hx', rfl⟩ := hkey_inv hkey_
      obtain rfl : (xa, xb) = x' := by
        obtain ⟨b1, b2⟩ := x'
        simp at ex
        rw [ex.1, ex.2]
      have hJ2 : J ss w2 := hJ ss wr w2 (some W.heap.size) hJs hg2 (fun r e => by cases e; exact ⟨Nat.le_refl _, hrg.iter_walk⟩)
      obtain ⟨w3, hw3⟩ : ∃ w3, w2.alloc (.cells #[.int .i64 xa, .int .i64 xb] 31) = w3 := ⟨_, rfl⟩
      have hg3 : w2.grownBy w3 none := hw3 ▸ World.grownBy_alloc w2 _ none
      have hk3 : KeepsWalks w2 w3 := hw3 ▸ KeepsWalks.alloc w2 _
      have hJ3 : J ss w3 := hJ ss w2 w3 none hJ2 hg3 (fun r e => by cases e)
      have hbx : Blk w3 w2.heap.size 31 #[.int .i64 xa, .int .i64 xb] := hw3 ▸ Blk.new w2 _ _
      have b0_ : w3.cell? ⟨w2.heap.size, 0, none⟩ = some (.int .i64 xa) := hbx.cell 0
      have b1_ : w3.cell? ⟨w2.heap.size, 1, none⟩ = some (.int .i64 xb) := hbx.cell 1
      have bl := hbx.lt
      obtain ⟨fn, tmps, assign, body, hy, hR⟩ := hY ss (xa, xb) w3 hJ3 (by omega)
      have hC2 := hC.step hx' hlk hat
      have hrg3 := hrg2.of_walks hk3
      clear hs2 hJ2 hJs hbx
      gi_wp2
      refine hR.mono ?_
      rintro e W4 ⟨rfl, hJ4, hk4⟩
      gi_wp2
      have hrg4 := hrg3.of_walks hk4
      go_roundw
      case rel => exact ⟨_, cnt2, ss ++ [(xa, xb)], hrg4, by simp; omega, hC2, hJ4⟩
      case measure => rw [hrg4.left_eq, hrg.left_eq]; exact hlt
theorem keys_gives (F : Fence) (n : Nat) (h33 : F.fn 33) (hro : F.round = none) (hn : 1 ≤ n) (Bm b nn : Nat) (D0 : DataW Value) (w : World) (hBm : Bm < w.heap.size)
    (hm : w.cell? ⟨Bm, 0, none⟩ = some (.map (some b))) (hown : Mp w Try.prog 31 b nn D0) {hs : List H2} (hl : Lk hkl hok D0 (hmap hs)) (hd : hs.Nodup) (ho : ∀ x ∈ hs, hok x) :
    SeqGives F n Try.prog 33 #[.pointer (some ⟨Bm, 0, none⟩)] hval (fun ss => ss.Perm hs) (Maps.size D0) w := fun l J W hW hJ hY h0 => by
  have hown' : Mp W Try.prog 31 b nn D0 := by
    have hbl := hown.lt
    obtain ⟨es, clock, hb, Ft, hs, hD⟩ := hown
    exact ⟨es, clock, (hW.block b hbl).trans hb, Ft, hs, hD⟩
  exact keysN_in F n h33 hro hn l Bm b nn D0 J hY W hJ ((hW.cell (p := ⟨Bm, 0, none⟩) hBm).trans hm) hown' h0 hl hd ho
end Go.Proofs.Ytkhdgdbbhbphiaa
