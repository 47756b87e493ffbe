/- slices.SortFunc over a row of holders. -/
import Derived.Test.YtkhdgdbbhbphiaaPq
import Derived.Test.YtkhdgdbbhbphiaaPc
namespace Go.Proofs.Ytkhdgdbbhbphiaa
open Go.RowKit Go.Shelf Go.Sort
set_option linter.unusedVariables false
set_option linter.unusedSimpArgs false

theorem prs_fl (l : List H2) : prs l = fl e2 l := rfl
theorem cmp_swo : SWO (ltOf cmpH) := by
  have h : ltOf cmpH = rless := by funext x y; exact cmpH_lt x y
  rw [h]
  refine ⟨fun x => by simp [rless], fun x y z h1 h2 => ?_, fun x y z h1 h2 => ?_⟩
  · simp only [rless, Bool.or_eq_true, Bool.and_eq_true, decide_eq_true_eq] at *
    omega
  · simp only [rless, Bool.or_eq_false_iff, Bool.and_eq_false_iff, decide_eq_false_iff_not] at *
    omega
theorem rless_total {x y : H2} (h : x ≠ y) (hn : rless y x = false) : rless x y = true := by
  obtain ⟨a, b⟩ := x
  obtain ⟨c, d⟩ := y
  simp only [rless, Bool.or_eq_true, Bool.and_eq_true, decide_eq_true_eq, Bool.or_eq_false_iff, Bool.and_eq_false_iff, decide_eq_false_iff_not] at *
  by_cases h1 : a = c
  · subst h1
    have : b ≠ d := fun e => h (by rw [e])
    omega
  · omega
theorem flat_get {l : List H2} {j : Nat} (hj : j < l.length * 2) : (prs l)[j]? = some ((e2 (l.toArray[j / 2]!))[j % 2]!) := by
  have h1 : j / 2 < l.length := by omega
  have h2 : l[j / 2]? = some l[j / 2] := List.getElem?_eq_getElem h1
  have e1 : l.toArray[j / 2]! = l[j / 2] := by simp [h1]
  rw [e1]
  have h3 : (e2 l[j / 2])[j % 2]? = some (e2 l[j / 2])[j % 2]! := by
    have : j % 2 = 0 ∨ j % 2 = 1 := by omega
    rcases this with h | h <;> rw [h] <;> rfl
  have := fl_get (enc := e2) e2_len h2 h3
  rw [show j / 2 * 2 + j % 2 = j by omega] at this
  exact this
theorem holdsH {w : World} {base g n cap : Nat} {l : List H2} (h : w.ownsRow base 31 2 (.slice (some ⟨g, 0, none⟩) n cap) n (prs l)) (hl : l.length = n) : HoldsK e2 2 w g 0 l.toArray := by
  obtain ⟨hlen, h0 | ⟨g', cap', cur, hv, hb, hh, h1, h2, h3, h4⟩⟩ := h
  · cases h0.1
  · injection hv with hv1 hv2 hv3
    injection hv1 with hv1
    injection hv1 with hv1
    subst hv1
    intro j hj
    rw [size_flatK] at hj
    have hj' : j < l.length * 2 := by simpa using hj
    have hg := flat_get hj'
    rw [get_flatK _ _ _ _ hj]
    rw [← h4, List.getElem?_take] at hg
    split at hg
    · refine ⟨?_, ?_⟩
      · unfold World.cell?
        simp only [hh]
        simpa using hg
      · unfold World.frozen?
        simp only [hh]
        simp
    · cases hg
theorem eqPerm {d d' : Array H2} (h : PermIn 0 d.size d d') : d'.toList.Perm d.toList := by
  obtain ⟨h1, _, h3⟩ := h
  have e1 : (d'.extract 0 d.size) = d' := by rw [← h1]; simp
  have e2 : (d.extract 0 d.size) = d := by simp
  rw [e1, e2] at h3
  exact h3
theorem sortedP {d : Array H2} (hs : SortedIn (ltOf cmpH) 0 d.size d) (hn : d.toList.Nodup) : d.toList.Pairwise (fun a b => rless a b = true) := by
  rw [List.pairwise_iff_getElem]
  intro i j hi hj hij
  have h := hs i j (Nat.zero_le _) hij (by simpa using hj)
  rw [cmpH_lt] at h
  have e1 : d[i]! = d.toList[i] := by simp at hi; simp [hi]
  have e2 : d[j]! = d.toList[j] := by simp at hj; simp [hj]
  rw [e1, e2] at h
  refine rless_total (fun e => ?_) h
  exact (List.pairwise_iff_getElem.1 hn) i j hi hj hij e
theorem updSort {w : World} {g n : Nat} {d : Array H2} {os : Array Obj} : Upd (At g) w (sortWorldK e2 2 w g 0 n d os) := by
  have hsz : (putRowK e2 2 (Sort.ahead w n) g 0 d).heap.size = w.heap.size := by simp [putRowK, putRow, mapBlock, Sort.ahead]
  refine ⟨rfl, rfl, rfl, by unfold sortWorldK; rw [size_grow, hsz]; omega, fun i hi hne => ?_⟩
  unfold sortWorldK
  rw [heap_grow_old _ _ (by rw [hsz]; exact hi)]
  show (w.heap.modify g _)[i]? = w.heap[i]?
  rw [Array.getElem?_modify, if_neg (fun e => hne e.symm)]
set_option maxHeartbeats 1000000 in
theorem sort_to {w : World} {base g n cap : Nat} {l : List H2} (h : w.ownsRow base 31 2 (.slice (some ⟨g, 0, none⟩) n cap) n (prs l)) (hl : l.length = n) (hn : l.Nodup) (h12 : n ≤ 12) :
    Calls Try.prog 32 #[.slice (some ⟨g, 0, none⟩) n cap, .func (.func 27) #[] #[]] w fun e w' => e = .returned (.tuple #[]) ∧ ∃ l' : List H2, l'.Perm l ∧ l'.Pairwise (fun a b => rless a b = true) ∧ Sl w' (some ⟨g, 0, none⟩) n cap (prs l') ∧ Upd (At g) w w' := by
  have eg : ∀ args w, (callFunc 27 args).run Try.prog w = .ok (.enter 27 args) w := enters_of Try.func27 (by kernel_rfl) rfl
  have hcmp : CmpLays Try.prog 27 #[] e2 2 cmpH g 0 l.toArray.size w := fun _ _ _ _ x y => closure_to x y _
  have hg : g < w.heap.size := own_lt h (show (Value.slice (some ⟨g, 0, none⟩) n cap).ownBlock = some g by simp [Value.ownBlock])
  have hsl := (Sl.of_own h)
  have hH := holdsH h hl
  have hsz : l.toArray.size = n := by simpa using hl
  have hlen : ∀ (m : Nat) (W : World), m ≤ 12 → Calls Try.prog (sortH_ren.f 15) #[.int .u64 m] W fun e w' => (∃ z : Int, e = .returned (.int .i64 z)) ∧ w' = W := fun m W hm => (Any.bits_Len bitsH m W (by omega) (by omega)).mono fun _ _ ⟨he, hw⟩ => ⟨⟨_, he⟩, hw⟩
  have hcon := AnyQ.slices_SortFunc_small_sorted sortH 2 Try.isAgg31 Try.sizeOf31 e2 (fun _ => rfl) (fun x v hv => by simp [e2] at hv; rcases hv with rfl | rfl <;> rfl) cmpH 27 #[] cmp_swo g 0 cap l.toArray w eg hcmp hH hg (by rw [hsz]; exact h12) hlen
  rw [hsz] at hcon
  refine Calls.mono hcon ?_
  rintro e w' ⟨he, d', m, os, hp, hs, rfl⟩
  have hp' : PermIn 0 l.toArray.size l.toArray d' := by rw [hsz]; exact hp
  have hperm := eqPerm hp'
  have hdz : d'.size = n := by rw [hp.1, hsz]
  have hnd : d'.toList.Nodup := hperm.nodup_iff.2 (by simpa using hn)
  obtain ⟨A2, cap2, e2_, hsl2, _⟩ := hsl
  injection e2_ with q1 q2 q3
  subst q1 q3
  have hK := holdsK_sortWorldK_c e2 2 w g 0 l.toArray d' m os hH hg (by rw [hdz, hsz])
  refine ⟨he, d'.toList, by simpa using hperm, sortedP (by rw [hdz]; exact hs) hnd, ⟨hsl2.le, hsl2.cm, (fun e => by cases e), ?_⟩, updSort⟩
  refine .inr ⟨g, 0, rfl, Nat.lt_of_lt_of_le hg updSort.size, fun j u hj => ?_⟩
  have hj2 : j < d'.toList.length * 2 := by
    have := (List.getElem?_eq_some_iff.1 hj).1
    rwa [prs_len] at this
  rw [flat_get hj2] at hj
  injection hj with hj
  have hd : j / 2 < d'.size := by simp at hj2; omega
  have := (hK.cell (i := j / 2) (c := j % 2) hd (by omega)).1
  rw [show 0 + j / 2 * 2 + j % 2 = 0 + j by omega] at this
  rw [this, ← hj]
theorem collect_to {w : World} {Bm b nn : Nat} {D0 : DataW Value} {hs : List H2} (hBm : Bm < w.heap.size) (hm : w.cell? ⟨Bm, 0, none⟩ = some (.map (some b))) (hown : Mp w Try.prog 31 b nn D0) (hl : Lk hkl hok D0 (hmap hs)) (hd : hs.Nodup) (ho : ∀ x ∈ hs, hok x) (h9 : hs.length ≤ 1000) :
    Calls Try.prog 31 #[.func (.func 33) #[] #[.pointer (some ⟨Bm, 0, none⟩)]] w fun e w' => ∃ (v : Value) (ss : List H2), e = .returned v ∧ ss.Perm hs ∧ w'.ownsRow w.heap.size 31 2 v ss.length (prs ss) ∧ (v = .slice none 0 0 ↔ ss = []) ∧ RowKit.Below w.heap.size w w' := by
  refine (callsIn_wide (n := 5)).1 ?_
  have hsz : Maps.size D0 = hs.length := by rw [hl.size]; simp [hmap]
  exact collect_in Fence.wide 5 trivial trivial rfl (by omega) 33 _ trivial (enters_of Try.func33 (by kernel_rfl) rfl) _ (Maps.size D0) (by rw [hsz]; unfold maxLen; omega) (by rw [hsz]; omega) w (keys_gives Fence.wide _ trivial rfl (by omega) Bm b nn D0 w hBm hm hown hl hd ho)
theorem ins_nil (w : World) : Calls Try.prog 38 #[.slice none 0 0, .int .i64 0, .int .i64 0, .func (.func 27) #[] #[]] w fun e w' => e = .returned (.tuple #[]) ∧ w = w' := by
  go_enter Try.func38, Try.ntmps38
  go_wp2_with fail
  go_loopw [8] (fun iv wr => iv = .int .i64 1 ∧ w = wr) (fun _ _ => 0)
  case atStart => exact ⟨rfl, rfl⟩
  case round =>
    obtain ⟨rfl, hw⟩ := hrel
    subst hw
    go_wp2
    go_end0
    exact ⟨rfl, rfl⟩
theorem pdq_nil (z : Int) (w : World) : Calls Try.prog 36 #[.slice none 0 0, .int .i64 0, .int .i64 0, .int .i64 z, .func (.func 27) #[] #[]] w fun e w' => e = .returned (.tuple #[]) ∧ w = w' := by
  go_enter Try.func36, Try.ntmps36
  go_wp2_with fail
  go_loopw [1, 2] (fun av bv wr => av = .int .i64 0 ∧ bv = .int .i64 0 ∧ w = wr) (fun _ _ _ => 0)
  case atStart => exact ⟨rfl, rfl, rfl⟩
  case round =>
    obtain ⟨rfl, rfl, hw⟩ := hrel
    subst hw
    go_wp2_with (go_at_call 38; refine (ins_nil _).mono ?_; rintro e w' ⟨rfl, rfl⟩)
    exact bodyPost_ret (results_none rfl _ _ _) rfl ⟨rfl, rfl⟩
theorem sort_nil (w : World) : Calls Try.prog 32 #[.slice none 0 0, .func (.func 27) #[] #[]] w fun e w' => e = .returned (.tuple #[]) ∧ w = w' := by
  have hb := fun W => Any.bits_Len bitsH 0 W (by omega) (by omega)
  go_enter Try.func32, Try.ntmps32
  go_wp2_with (first | (go_at_call 37; refine (hb _).mono ?_; rintro e w' ⟨rfl, rfl⟩) | (go_at_call 36; refine (pdq_nil _ _).mono ?_; rintro e w' ⟨rfl, rfl⟩))
  go_end0
  exact ⟨rfl, rfl⟩
/-- Holders that rise. -/
def Rising (l : List H2) : Prop := l.Pairwise (fun a b => rless a b = true)
set_option maxHeartbeats 1000000 in
theorem sorted_to {w : World} {Bm b nn : Nat} {D0 : DataW Value} {hs : List H2} (hBm : Bm < w.heap.size) (hm : w.cell? ⟨Bm, 0, none⟩ = some (.map (some b))) (hown : Mp w Try.prog 31 b nn D0) (hl : Lk hkl hok D0 (hmap hs)) (hd : hs.Nodup) (ho : ∀ x ∈ hs, hok x) (h9 : hs.length ≤ 12) :
    Calls Try.prog 25 #[.func (.func 33) #[] #[.pointer (some ⟨Bm, 0, none⟩)], .func (.func 27) #[] #[]] w fun e w' => ∃ (A : Option Addr) (n c : Nat) (l : List H2), e = .returned (.slice A n c) ∧ l.Perm hs ∧ Rising l ∧ l.length = n ∧ Sl w' A n c (prs l) ∧ Upd (fun _ => False) w w' := by
  have HC := Lib.hid (collect_to hBm hm hown hl hd ho (by omega))
  have HD := Lib.hid hd
  clear hBm hm hown hl hd ho
  go_enter Try.func25, Try.ntmps25
  go_wp2_with fail
  refine HC.out.mono ?_
  rintro e_ w1 ⟨v, ss, rfl, hp, ho, hn, hb⟩
  have U1 := Lib.hid (Upd.of_below hb (fun _ => False))
  have HP := Lib.hid hp
  have HO := Lib.hid ho
  obtain ⟨A, c, rfl, hsl, hge⟩ := Sl.of_own ho
  have HS := Lib.hid hsl
  have HGE := Lib.hid hge
  have HN := Lib.hid hn
  clear HC hp ho hb hsl hge hn
  cases A with
  | none =>
    obtain ⟨h1, h2⟩ := HS.out.nil rfl
    obtain rfl : ss = [] := List.eq_nil_of_length_eq_zero h1
    subst h2
    go_wp2_with (go_at_call 32; refine (sort_nil _).mono ?_; rintro e w' ⟨rfl, rfl⟩)
    go_ret
    exact ⟨none, 0, 0, [], rfl, HP.out, List.Pairwise.nil, rfl, Sl.zero _, U1.out⟩
  | some ad =>
    have hq : ∃ g, ad = ⟨g, 0, none⟩ ∧ w.heap.size ≤ g := by
      rcases HO.out.2 with ⟨h0, _⟩ | ⟨g, cap, cur, hv, hb, _⟩
      · cases h0
      · injection hv with hv1 _ _
        injection hv1 with hv1
        exact ⟨g, hv1, hb⟩
    obtain ⟨g, rfl, hg⟩ := hq
    have HG := Lib.hid hg
    have HL : Hid (ss.length ≤ 12) := Lib.hid (by rw [HP.out.length_eq]; exact h9)
    clear hg
    go_wp2_with fail
    refine (sort_to HO.out rfl (HP.out.nodup_iff.2 HD.out) HL.out).mono ?_
    rintro e_ w2 ⟨rfl, l, hlp, hr, hs2, hu⟩
    have HU2 := Lib.hid (U1.out.trans hu (fun i hi => .inr (by rw [show i = g from hi]; exact HG.out)))
    have HS2 := Lib.hid hs2
    have HR := Lib.hid hr
    have HLP := Lib.hid hlp
    clear hs2 hr hlp hu
    go_wp2
    go_ret
    exact ⟨_, _, c, l, rfl, HLP.out.trans HP.out, HR.out, HLP.out.length_eq, HS2.out, HU2.out⟩
theorem all_to {g b N : Nat} {most : Int} {hs : List H2} (h9 : hs.length ≤ 12) (w : World) (hp : PS w g b most N hs) : Calls Try.prog 17 #[.pointer (some ⟨g, 0, none⟩)] w fun e w' => ∃ (A : Option Addr) (n c : Nat) (l : List H2), e = .returned (.slice A n c) ∧ l.Perm hs ∧ Rising l ∧ l.length = n ∧ Sl w' A n c (prs l) ∧ Upd (fun _ => False) w w' := by
  obtain ⟨hb, nn, D0, hn, hm, hl⟩ := id hp
  have hu1 := (Upd.refl (fun _ => False) w).alloc (.cells #[.map (some b)] 49)
  have HC := Lib.hid (sorted_to (w := w.alloc (.cells #[.map (some b)] 49)) (Bm := w.heap.size) (by simp) ((Blk.new w #[.map (some b)] 49).cell 0) (hm.upd0 hu1) hl hp.nodup hp.oks h9)
  have HU := Lib.hid hu1
  have c1 : w.cell? ⟨g, 1, none⟩ = some (.map (some b)) := hb.cell 1
  have lt := hb.lt
  clear hp hb hm hl hu1
  go_enter Try.func17, Try.ntmps17
  go_wp2_with (first | (go_at_call 25; refine HC.out.mono ?_; rintro e_ w1 ⟨A, n, c, l, rfl, h1, h2, h3, h4, h5⟩) | go_in)
  go_ret
  exact ⟨A, n, c, l, rfl, h1, h2, h3, h4, HU.out.trans h5 (fun _ h => h.elim)⟩
end Go.Proofs.Ytkhdgdbbhbphiaa
