/- A batch of wants, and those that it took. -/
import Derived.Test.YtdfnhbhcgkdplaaAw
import Derived.Deep.RegionHeld3
namespace Go.Proofs.Ytdfnhbhcgkdplaa
open Go.RowKit
set_option linter.unusedVariables false
set_option linter.unusedSimpArgs false

theorem own_upd {S : Nat → Prop} {w w' : World} {base : Nat} {e : TypeId} {size n : Nat} {v : Value} {xs : List Value} (h : w.ownsRow base e size v n xs) (hu : Upd S w w') (hn : ∀ b, v.ownBlock = some b → ¬ S b) : w'.ownsRow base e size v n xs := by
  obtain ⟨h1, h2⟩ := h
  refine ⟨h1, ?_⟩
  rcases h2 with h2 | ⟨g, cap, cur, rfl, hg, hh, r⟩
  · exact .inl h2
  · refine .inr ⟨g, cap, cur, rfl, hg, ?_, r⟩
    rw [hu.block g (Array.getElem?_eq_some_iff.1 hh).1 (hn g rfl)]
    exact hh
/-- A slice lies apart from the row of v. -/
def SepV (v : Value) (A : Option Addr) : Prop := ∀ b o, A = some ⟨b, o, none⟩ → v.ownBlock ≠ some b
theorem Sl.lt {w : World} {A : Option Addr} {n cap : Nat} {cs : List Value} (h : Sl w A n cap cs) (hne : 0 < cs.length) {b o : Nat} (hA : A = some ⟨b, o, none⟩) : b < w.heap.size := by
  rcases h.at_ with rfl | ⟨b', o', hA', hlt, _⟩
  · simp at hne
  · rw [hA] at hA'
    injection hA' with hA'
    injection hA' with e1 e2
    omega

/-- One want more. -/
abbrev BS := List Int × List (Int × Int) × List (Int × Int)
def bstep (most : Int) (s : BS) (w : Int × Int) : BS :=
  match badd s.1 s.2.1 w.1 w.2 most with
  | (xs, ms, true) => (xs, ms, s.2.2 ++ [w])
  | (_, _, false) => s
def bfold (most : Int) : BS → List (Int × Int) → BS
  | s, [] => s
  | s, w :: ws => bfold most (bstep most s w) ws
theorem bfold_snoc (most : Int) (w : Int × Int) : ∀ (s : BS) (ws : List (Int × Int)), bfold most s (ws ++ [w]) = bstep most (bfold most s ws) w
  | s, [] => rfl
  | s, v :: ws => by
    show bfold most (bstep most s v) (ws ++ [w]) = _
    rw [bfold_snoc most w _ ws]
    rfl
def ball (most : Int) : List (Int × Int) → BS
  | [] => ([], [], [])
  | w :: ws => bfold most ([w.2], [(w.1, 0)], [w]) (ws.take 19)
/-- How long all is, at most. -/
def BSle (k : Nat) (s : BS) : Prop := 0 < s.1.length ∧ s.1.length ≤ k ∧ 0 < s.2.1.length ∧ s.2.1.length ≤ k ∧ s.2.2.length ≤ k
theorem bstep_le {most : Int} {k : Nat} {s : BS} (w : Int × Int) (h : BSle k s) : BSle (k + 1) (bstep most s w) := by
  obtain ⟨xs, ms, tk⟩ := s
  obtain ⟨h0, h1, h2, h3, h4⟩ := h
  simp only at h0 h1 h2 h3 h4
  by_cases c1 : idx xs w.2 < xs.length
  · have e : bstep most (xs, ms, tk) w = (xs, ms ++ [(w.1, (idx xs w.2 : Int))], tk ++ [w]) := by simp [bstep, badd, c1]
    rw [e]
    exact ⟨h0, by simp only; omega, by simp, by simp; omega, by simp; omega⟩
  · by_cases c2 : most ≤ (xs.length : Int)
    · have e : bstep most (xs, ms, tk) w = (xs, ms, tk) := by simp [bstep, badd, c1, c2]
      rw [e]
      exact ⟨h0, by simp only; omega, h2, by simp only; omega, by simp only; omega⟩
    · have e : bstep most (xs, ms, tk) w = (xs ++ [w.2], ms ++ [(w.1, (xs.length : Int))], tk ++ [w]) := by simp [bstep, badd, c1, c2]
      rw [e]
      exact ⟨by simp, by simp; omega, by simp, by simp; omega, by simp; omega⟩
theorem infoW : (Try.prog.info? 58).map (fun i => (i.zero, i.size, i.bytes)) = some (some (.agg #[.int .i64 0, .int .i64 0]), 2, 16) := by kernel_rfl

theorem own_one {w : World} {g : Nat} {t : TypeId} {a b : Value} {base : Nat} (h : Blk w g t #[a, b]) (hg : base ≤ g) : w.ownsRow base t 2 (.slice (some ⟨g, 0, none⟩) 1 1) 1 [a, b] :=
  ⟨rfl, .inr ⟨g, 1, #[a, b], rfl, hg, h, by omega, by simp [maxLen], rfl, rfl⟩⟩
theorem Blk.newN {w : World} {k : Nat} (cs : Array Value) {t : TypeId} (h : w.heap.size = k) : Blk (w.alloc (.cells cs t)) k t cs := h ▸ Blk.new w cs t
theorem SepV.lt {A : Option Addr} {g n c H : Nat} (h : ∀ b o, A = some ⟨b, o, none⟩ → b < H) (hg : H ≤ g) : SepV (.slice (some ⟨g, 0, none⟩) n c) A := fun b o e he => by
  have h1 := h b o e
  have h2 : g = b := by simpa [Value.ownBlock] using he
  omega
theorem own_mono {w : World} {base : Nat} {e : TypeId} {size n : Nat} {v : Value} {xs : List Value} (h : w.ownsRow base e size v n xs) {b : Nat} (hb : v.ownBlock = some b) : b < w.heap.size := by
  rcases Nat.lt_or_ge b w.heap.size with hlt | hge
  · exact hlt
  · exact absurd hb (own_ltw h hge)
theorem Sep.nw_lt {H : Nat} {A A' : Option Addr} (hs : ∀ b o, A = some ⟨b, o, Option.none⟩ → b < H) (hn : Nw (H + 1) A' A) : Sep H A' := fun b o e => by
  rcases hn b o e with rfl | hb
  · have := hs b o e; omega
  · omega
theorem Sl.ltn {w : World} {A : Option Addr} {n cap : Nat} {xs : List Int} (h : Sl w A n cap (nums xs)) (hne : 0 < xs.length) : ∀ b o, A = some ⟨b, o, none⟩ → b < w.heap.size := fun b o e => h.lt (by rw [nums_len]; exact hne) e
theorem Sl.ltp {w : World} {A : Option Addr} {n cap : Nat} {xs : List (Int × Int)} (h : Sl w A n cap (prs xs)) (hne : 0 < xs.length) : ∀ b o, A = some ⟨b, o, none⟩ → b < w.heap.size := fun b o e => h.lt (by rw [prs_len]; omega) e
theorem bstep_no {xs a : List Int} {ms b tk : List (Int × Int)} {x : Int × Int} {most : Int} (h : badd xs ms x.1 x.2 most = (a, b, false)) : bstep most (xs, ms, tk) x = (xs, ms, tk) := by
  show (match badd xs ms x.1 x.2 most with | (xs, ms, true) => (xs, ms, tk ++ [x]) | (_, _, false) => (xs, ms, tk)) = _
  rw [h]
theorem bstep_yes {xs a : List Int} {ms b tk : List (Int × Int)} {x : Int × Int} {most : Int} (h : badd xs ms x.1 x.2 most = (a, b, true)) : bstep most (xs, ms, tk) x = (a, b, tk ++ [x]) := by
  show (match badd xs ms x.1 x.2 most with | (xs, ms, true) => (xs, ms, tk ++ [x]) | (_, _, false) => (xs, ms, tk)) = _
  rw [h]
theorem SepV.nw {v : Value} {A A' : Option Addr} {B base : Nat} {w : World} {e : TypeId} {size n : Nat} {xs : List Value} (h : SepV v A) (hn : Nw B A' A) (hown : w.ownsRow base e size v n xs) (hB : w.heap.size ≤ B) : SepV v A' := fun b o e => by
  rcases hn b o e with rfl | hb
  · exact h b o e
  · exact own_ltw hown (Nat.le_trans hB hb)
theorem SepV.row {T T' : Option Addr} {A : Option Addr} {t t' tc tc' : Nat} {g H : Nat} (h : SepV (.slice T t tc) A) (hT : T' = some ⟨g, 0, none⟩) (hg : (Value.slice T t tc).ownBlock = some g ∨ g = H) (hA : ∀ b o, A = some ⟨b, o, none⟩ → b < H) : SepV (.slice T' t' tc') A := fun b o e => by
  subst hT
  intro he
  have he : g = b := by simpa [Value.ownBlock] using he
  subst he
  rcases hg with hg | hg
  · exact h _ _ e hg
  · have := hA _ _ e; omega
theorem bfold_end {most : Int} {s : BS} {vs : List (Int × Int)} {j : Nat} (h1 : 1 ≤ j) (h : j = vs.length + 1 ∧ j ≤ 20 ∨ j = 20) : bfold most s (vs.take (j - 1)) = bfold most s (vs.take 19) := by
  rcases h with ⟨h, h2⟩ | h
  · subst h
    rw [Nat.add_sub_cancel, List.take_length, List.take_of_length_le (by omega)]
  · subst h; rfl
theorem bfold_next {most : Int} {s st : BS} {v x : Int × Int} {vs : List (Int × Int)} {j : Nat} (h1 : 1 ≤ j) (hx : (v :: vs)[j]? = some x) (h : bfold most s (vs.take (j - 1)) = st) : bfold most s (vs.take (j + 1 - 1)) = bstep most st x := by
  obtain ⟨k, rfl⟩ : ∃ k, j = k + 1 := ⟨j - 1, by omega⟩
  have hx' : vs[k]? = some x := hx
  rw [Nat.add_sub_cancel] at h ⊢
  rw [take_snoc hx', bfold_snoc, h]

/-- What all hands back. -/
def AllPost (r : BS) (w : World) (e : Ending) (w' : World) : Prop :=
  ∃ A c M d T tc n m t, e = .returned (.tuple #[.agg #[.slice A n c, .slice M m d], .slice T t tc]) ∧ Sl w' A n c (nums r.1) ∧ Sl w' M m d (prs r.2.1) ∧ Sl w' T t tc (prs r.2.2) ∧ r.1.length = n ∧ r.2.1.length = m ∧ r.2.2.length = t ∧ Below w.heap.size w w'

set_option maxHeartbeats 400000 in
theorem all_nil (L : Option Addr) (cap : Nat) (most : Int) (w : World) :
    Calls Try.prog 23 #[.slice L 0 cap, .int .i64 most] w (AllPost (ball most []) w) := by
  go_enter Try.func23, Try.ntmps23
  go_wp2_with fail
  refine bodyPost_ret (v := .tuple #[.agg #[.slice none 0 0, .slice none 0 0], .slice none 0 0]) (by simp [results, Try.results23, go_sem]) rfl ⟨_, _, _, _, _, _, _, _, _, rfl, Sl.zero _, Sl.zero _, Sl.zero _, rfl, rfl, rfl, ?_⟩
  exact ((Upd.refl (fun _ => False) w).alloc _).below0

set_option maxRecDepth 100000 in
set_option maxHeartbeats 4000000 in
theorem all_cons (L : Option Addr) (len cap : Nat) (v : Int × Int) (vs : List (Int × Int)) (hl : vs.length + 1 = len) (hm : len ≤ 9223372036854775807) (most : Int) (w : World) (hs : Sl w L len cap (prs (v :: vs))) :
    Calls Try.prog 23 #[.slice L len cap, .int .i64 most] w (AllPost (ball most (v :: vs)) w) := by
  have HS := Lib.hid hs
  have HL := Lib.hid hl
  obtain ⟨i0, hj, hz0, hz1, hz2⟩ := info_parts infoW
  obtain ⟨lb, lo, rfl, hlb, l0, l1⟩ := hs.pr (i := 0) (m := v) rfl
  simp only [Nat.zero_mul, Nat.add_zero] at l0 l1
  have hne : ¬ (len : Int) = 0 := by omega
  have hpos : (0 : Int) < (len : Int) := by omega
  have hpos' : 0 < len := by omega
  have hn0 : w.heap.size ≠ lb := by omega
  have hn1 : w.heap.size + 1 ≠ lb := by omega
  clear hs hl
  go_enter Try.func23, Try.ntmps23
  go_wp2_with fail
  have x0 := held_alloc l0 (.cells #[.slice none 0 0, .slice none 0 0] 31)
  have x1 := held_alloc l1 (.cells #[.slice none 0 0, .slice none 0 0] 31)
  go_region_held3 (fun w' => w'.cell? ⟨lb, lo, none⟩ = some (.int .i64 v.1) ∧ w'.cell? ⟨lb, lo + 1, none⟩ = some (.int .i64 v.2)) (go_keep) (first | (go_at_call 16; refine (one_any v.1 v.2 _).mono ?_; rintro e w1 ⟨A1, c1, M1, d1, rfl, ha, hm1, hna, hnm, hd⟩; have hd0 := Upd.of_below hd (fun _ => False); simp only [World.size_drew, World.size_alloc] at hna hnm; have hs1 := hd0.size; simp only [World.size_drew, World.size_alloc] at hs1; have hb1 : Blk w1 (w.heap.size + 1) 31 #[.slice none 0 0, .slice none 0 0] := Blk.upd (Blk.new1 w _ _ 31).drew hd0 (fun h => h); have hz1 : Blk w1 w.heap.size 31 #[.slice none 0 0, .slice none 0 0] := Blk.upd (((Blk.new w _ 31).alloc _).drew) hd0 (fun h => h); have c1b := hb1.cell; have f1b := hb1.frz; have HB1 := Lib.hid hb1; clear hb1; have HU1 : Hid (Upd (fun _ => False) w w1) := Lib.hid (((((Upd.refl (fun _ => False) w).alloc (.cells #[.slice none 0 0, .slice none 0 0] 31)).alloc (.cells #[.slice none 0 0, .slice none 0 0] 31)).drew).trans hd0 (fun _ h => h.elim)); have z0 := (HU1.out.cellq (p := ⟨lb, lo, none⟩) hlb (fun h => h)).trans l0; have z1 := (HU1.out.cellq (p := ⟨lb, lo + 1, none⟩) hlb (fun h => h)).trans l1; have HZ1 := Lib.hid hz1; have HA1 := Lib.hid ha; have HM1 := Lib.hid hm1; have HNA := Lib.hid hna; have HNM := Lib.hid hnm; clear hz1 ha hm1 hna hnm hd hd0) | (go_at_call 16; refine (one_any v.1 v.2 _).mono ?_; rintro e w1 ⟨A1, c1, M1, d1, rfl, ha, hm1, hna, hnm, hd⟩; have hd0 := Upd.of_below hd (fun _ => False); simp only [World.size_drew, World.size_alloc] at hna hnm; have hs1 := hd0.size; simp only [World.size_drew, World.size_alloc] at hs1; have hz1 : Blk w1 w.heap.size 31 #[.slice none 0 0, .slice none 0 0] := Blk.upd (Blk.new w _ 31).drew hd0 (fun h => h); have hn2 : w1.heap.size ≠ lb := Nat.ne_of_gt (Nat.lt_of_lt_of_le hlb (Nat.le_of_succ_le hs1)); have HU1 : Hid (Upd (fun _ => False) w w1) := Lib.hid ((((Upd.refl (fun _ => False) w).alloc (.cells #[.slice none 0 0, .slice none 0 0] 31)).drew).trans hd0 (fun _ h => h.elim)); have z0 := (HU1.out.cellq (p := ⟨lb, lo, none⟩) hlb (fun h => h)).trans l0; have z1 := (HU1.out.cellq (p := ⟨lb, lo + 1, none⟩) hlb (fun h => h)).trans l1; have HZ1 := Lib.hid hz1; have HA1 := Lib.hid ha; have HM1 := Lib.hid hm1; have HNA := Lib.hid hna; have HNM := Lib.hid hnm; clear hz1 ha hm1 hna hnm hd hd0))
  · have hSA : Hid (Sep (w1.heap.size) A1) := Lib.hid (fun b o e => by have := HNA.out b o e; omega)
    have hSM : Hid (Sep (w1.heap.size) M1) := Lib.hid (fun b o e => by have := HNM.out b o e; omega)
    have B1 : Hid (Blk (w1.alloc (.cells #[.slice A1 1 c1, .slice M1 1 d1] 31)) (w1.heap.size) 31 #[.slice A1 1 c1, .slice M1 1 d1]) := Lib.hid (Blk.new w1 _ _)
    have U1 : Hid (Upd (fun _ => False) w (w1.alloc (.cells #[.slice A1 1 c1, .slice M1 1 d1] 31))) := Lib.hid (HU1.out.alloc _)
    have Z1 : Hid (Blk (w1.alloc (.cells #[.slice A1 1 c1, .slice M1 1 d1] 31)) w.heap.size 31 #[.slice none 0 0, .slice none 0 0]) := Lib.hid (HZ1.out.alloc _)
    have SA1 : Hid (Sl (w1.alloc (.cells #[.slice A1 1 c1, .slice M1 1 d1] 31)) A1 1 c1 (nums [v.2])) := Lib.hid (HA1.out.alloc _)
    have SM1 : Hid (Sl (w1.alloc (.cells #[.slice A1 1 c1, .slice M1 1 d1] 31)) M1 1 d1 (prs [(v.1, 0)])) := Lib.hid (HM1.out.alloc _)
    have WB : Hid (Blk ((w1.alloc (.cells #[.slice A1 1 c1, .slice M1 1 d1] 31)).alloc (.cells #[.int .i64 v.1, .int .i64 v.2] 58)) (w1.heap.size + 1) 58 #[.int .i64 v.1, .int .i64 v.2]) := Lib.hid (Blk.newN _ (by simp))
    have OW : Hid (((w1.alloc (.cells #[.slice A1 1 c1, .slice M1 1 d1] 31)).alloc (.cells #[.int .i64 v.1, .int .i64 v.2] 58)).ownsRow (w1.heap.size + 1) 58 2 (.slice (some ⟨w1.heap.size + 1, 0, none⟩) 1 1) 1 (prs [v])) := Lib.hid (own_one WB.out (Nat.le_refl _))
    have hVA : Hid (SepV (.slice (some ⟨w1.heap.size + 1, 0, none⟩) 1 1) A1) := Lib.hid (SepV.lt (fun b o e => (HNA.out b o e).2) (by omega))
    have hVM : Hid (SepV (.slice (some ⟨w1.heap.size + 1, 0, none⟩) 1 1) M1) := Lib.hid (SepV.lt (fun b o e => (HNM.out b o e).2) (by omega))
    have hSAz : Hid (Sep w.heap.size A1) := Lib.hid (fun b o e => by have := HNA.out b o e; omega)
    have hSMz : Hid (Sep w.heap.size M1) := Lib.hid (fun b o e => by have := HNM.out b o e; omega)
    have gg : w.heap.size < w1.heap.size := by omega
    have gt : w1.heap.size < w1.heap.size + 1 := by omega
    go_wp2_with fail
    go_loopw [7, 8] (fun tv i wr => ∃ (j : Nat) (A : Option Addr) (c : Nat) (M : Option Addr) (d : Nat) (T : Option Addr) (tc n m t : Nat) (xs : List Int) (ms tk : List (Int × Int)), 1 ≤ j ∧ j ≤ len ∧ j ≤ 20 ∧ w1.heap.size + 1 ≤ wr.heap.size ∧ tv = .slice T t tc ∧ i = .int .i64 j ∧ Hid (xs.length = n ∧ ms.length = m ∧ tk.length = t) ∧ Hid (BSle j (xs, ms, tk)) ∧ Hid (bfold most ([v.2], [(v.1, 0)], [v]) (vs.take (j - 1)) = (xs, ms, tk)) ∧ Hid (wr.ownsRow (w1.heap.size + 1) 58 2 (.slice T t tc) t (prs tk)) ∧ Hid (Blk wr (w1.heap.size) 31 #[.slice A n c, .slice M m d]) ∧ Hid (Blk wr w.heap.size 31 #[.slice none 0 0, .slice none 0 0]) ∧ Hid (Sl wr A n c (nums xs)) ∧ Hid (Sl wr M m d (prs ms)) ∧ Hid (Sep (w1.heap.size) A ∧ Sep (w1.heap.size) M ∧ Sep w.heap.size A ∧ Sep w.heap.size M) ∧ Hid (SepV (.slice T t tc) A ∧ SepV (.slice T t tc) M) ∧ Hid (Upd (fun _ => False) w wr)) (fun _ i _ => 20 - (intOf i).toNat)
    case atStart =>
      exact ⟨1, A1, c1, M1, d1, some ⟨w1.heap.size + 1, 0, none⟩, 1, 1, 1, 1, [v.2], [(v.1, 0)], [v], by omega, by omega, by omega, by simp, rfl, rfl, Lib.hid ⟨rfl, rfl, rfl⟩, Lib.hid ⟨by simp, by simp, by simp, by simp, by simp⟩, Lib.hid rfl, OW, Lib.hid (B1.out.alloc _), Lib.hid (Z1.out.alloc _), Lib.hid (SA1.out.alloc _), Lib.hid (SM1.out.alloc _), Lib.hid ⟨hSA.out, hSM.out, hSAz.out, hSMz.out⟩, Lib.hid ⟨hVA.out, hVM.out⟩, Lib.hid (U1.out.alloc _)⟩
    case round =>
      obtain ⟨j, A, c, M, d, T, tc, n, m, t, xs, ms, tk, hj1, hj2, hj3, htz, rfl, rfl, hlen, hle, hbf, hown, hbb, hzz, ha, hm2, hsep, hsv, hu⟩ := hrel
      by_cases h1 : j < len
      · by_cases h2 : j < 20
        · obtain ⟨x, hx⟩ : ∃ x, (v :: vs)[j]? = some x := ⟨(v :: vs)[j]'(by have := HL.out; simp; omega), List.getElem?_eq_getElem _⟩
          obtain ⟨lb', lo', e, _, r0, r1⟩ := HS.out.pr hx
          injection e with e
          injection e with e1 e2
          subst e1
          subst e2
          have q0 := (hu.out.cellq (p := ⟨lb, lo + j * 2, none⟩) hlb (fun h => h)).trans r0
          have q1 := (hu.out.cellq (p := ⟨lb, lo + j * 2 + 1, none⟩) hlb (fun h => h)).trans r1
          have cb := hbb.out.cell
          have y0 := cb 0
          have y1 := cb 1
          have fb := hbb.out.frz
          have gr : w1.heap.size < wr.heap.size := hbb.out.lt
          obtain ⟨xs', ms', ok, hb⟩ : ∃ xs' ms' ok, badd xs ms x.1 x.2 most = (xs', ms', ok) := ⟨_, _, _, rfl⟩
          have HBD := Lib.hid hb
          have HX := Lib.hid hx
          have i0' : (0 : Int) ≤ (j : Int) := Int.natCast_nonneg _
          have i1' : (j : Int) < (len : Int) := by omega
          have hlb1 : lb ≠ w1.heap.size := by omega
          have hlb2 : wr.heap.size ≠ lb := by omega
          have hnr : wr.heap.size ≠ w1.heap.size := by omega
          have hle1 : xs.length ≤ 1000 := by have := hle.out.2.1; simp only at this; omega
          have hle2 : ms.length ≤ 1000 := by have := hle.out.2.2.2.1; simp only at this; omega
          have hle3 : tk.length ≤ 1000 := by have := hle.out.2.2.2.2; simp only at this; omega
          have HT0 : Hid (w1.heap.size + 1 ≤ wr.heap.size) := Lib.hid htz
          obtain ⟨ln1, ln2, ln3⟩ := hlen.out
          have HLN := Lib.hid (And.intro ln1 (And.intro ln2 ln3))
          have HL1 := Lib.hid (And.intro hle1 (And.intro hle2 hle3))
          clear hb hx r0 r1 ln1 ln2 ln3 hle1 hle2 hle3
          go_wp2_with fail
          go_region_held3 (fun w' => w'.cell? ⟨w1.heap.size, 0, none⟩ = some (.slice A n c) ∧ w'.cell? ⟨w1.heap.size, 1, none⟩ = some (.slice M m d) ∧ w'.cell? ⟨lb, lo + j * 2, none⟩ = some (.int .i64 x.1) ∧ w'.cell? ⟨lb, lo + j * 2 + 1, none⟩ = some (.int .i64 x.2)) (go_keep) (first | (go_at_call 11; refine (add_to HBD.out HLN.out.1 HLN.out.2.1 rfl rfl (by have := HL1.out.1; rw [HLN.out.1] at this; exact this) (by have := HL1.out.2.1; rw [HLN.out.2.1] at this; exact this) _ ((ha.out.alloc _).drew) ((hm2.out.alloc _).drew)).mono ?_; rintro e w5 ⟨A5, c5, M5, d5, rfl, ha5, hm5, hna, hnm, hd⟩; have hd0 := Upd.of_below hd (fun _ => False); simp only [World.size_drew, World.size_alloc] at hna hnm; have hs5 := hd0.size; simp only [World.size_drew, World.size_alloc] at hs5; have HU5 : Hid (Upd (fun _ => False) wr w5) := Lib.hid ((((Upd.refl (fun _ => False) wr).alloc (.cells #[.slice none 0 0, .slice none 0 0] 31)).drew).trans hd0 (fun _ h => h.elim)); have hb5 : Blk w5 wr.heap.size 31 #[.slice none 0 0, .slice none 0 0] := Blk.upd (Blk.new wr _ 31).drew hd0 (fun h => h); have c5b := hb5.cell; have f5b := hb5.frz; have HB5 := Lib.hid hb5; clear hb5; have z0 := (HU5.out.cellq (p := ⟨w1.heap.size, 0, none⟩) gr (fun h => h)).trans y0; have z1 := (HU5.out.cellq (p := ⟨w1.heap.size, 1, none⟩) gr (fun h => h)).trans y1; have z2 := (HU5.out.cellq (p := ⟨lb, lo + j * 2, none⟩) (Nat.lt_of_lt_of_le hlb hu.out.size) (fun h => h)).trans q0; have z3 := (HU5.out.cellq (p := ⟨lb, lo + j * 2 + 1, none⟩) (Nat.lt_of_lt_of_le hlb hu.out.size) (fun h => h)).trans q1; have HA5 := Lib.hid ha5; have HM5 := Lib.hid hm5; have HNA5 := Lib.hid hna; have HNM5 := Lib.hid hnm; clear ha5 hm5 hna hnm hd hd0) | (go_at_call 11; refine (add_to HBD.out HLN.out.1 HLN.out.2.1 rfl rfl (by have := HL1.out.1; rw [HLN.out.1] at this; exact this) (by have := HL1.out.2.1; rw [HLN.out.2.1] at this; exact this) _ ha.out.drew hm2.out.drew).mono ?_; rintro e w5 ⟨A5, c5, M5, d5, rfl, ha5, hm5, hna, hnm, hd⟩; have hd0 := Upd.of_below hd (fun _ => False); simp only [World.size_drew, World.size_alloc] at hna hnm; have hs5 := hd0.size; simp only [World.size_drew, World.size_alloc] at hs5; have HU5 : Hid (Upd (fun _ => False) wr w5) := Lib.hid (((Upd.refl (fun _ => False) wr).drew).trans hd0 (fun _ h => h.elim)); have hn5 : w5.heap.size ≠ lb := Nat.ne_of_gt (Nat.lt_of_lt_of_le (Nat.lt_of_lt_of_le hlb hu.out.size) hs5); have hn6 : w5.heap.size ≠ w1.heap.size := Nat.ne_of_gt (Nat.lt_of_lt_of_le gr hs5); have z0 := (HU5.out.cellq (p := ⟨w1.heap.size, 0, none⟩) gr (fun h => h)).trans y0; have z1 := (HU5.out.cellq (p := ⟨w1.heap.size, 1, none⟩) gr (fun h => h)).trans y1; have z2 := (HU5.out.cellq (p := ⟨lb, lo + j * 2, none⟩) (Nat.lt_of_lt_of_le hlb hu.out.size) (fun h => h)).trans q0; have z3 := (HU5.out.cellq (p := ⟨lb, lo + j * 2 + 1, none⟩) (Nat.lt_of_lt_of_le hlb hu.out.size) (fun h => h)).trans q1; have HA5 := Lib.hid ha5; have HM5 := Lib.hid hm5; have HNA5 := Lib.hid hna; have HNM5 := Lib.hid hnm; clear ha5 hm5 hna hnm hd hd0))
          · have gA : Hid (∀ b o, A = some ⟨b, o, none⟩ → b < wr.heap.size) := Lib.hid (ha.out.ltn hle.out.1)
            have gM : Hid (∀ b o, M = some ⟨b, o, none⟩ → b < wr.heap.size) := Lib.hid (hm2.out.ltp hle.out.2.2.1)
            have U9 : Hid (Upd (fun _ => False) wr (w5.alloc (.cells #[.slice A5 xs'.length c5, .slice M5 ms'.length d5] 31))) := Lib.hid (HU5.out.alloc _)
            have A9 : Hid (Sl (w5.alloc (.cells #[.slice A5 xs'.length c5, .slice M5 ms'.length d5] 31)) A5 xs'.length c5 (nums xs')) := Lib.hid (HA5.out.alloc _)
            have M9 : Hid (Sl (w5.alloc (.cells #[.slice A5 xs'.length c5, .slice M5 ms'.length d5] 31)) M5 ms'.length d5 (prs ms')) := Lib.hid (HM5.out.alloc _)
            have B9 : Hid (Blk (w5.alloc (.cells #[.slice A5 xs'.length c5, .slice M5 ms'.length d5] 31)) w5.heap.size 31 #[.slice A5 xs'.length c5, .slice M5 ms'.length d5]) := Lib.hid (Blk.new _ _ _)
            have b9 : Hid (Blk (w5.alloc (.cells #[.slice A5 xs'.length c5, .slice M5 ms'.length d5] 31)) (w1.heap.size) 31 #[.slice A n c, .slice M m d]) := Lib.hid (hbb.out.upd U9.out (fun h => h))
            have NX : Hid (bfold most ([v.2], [(v.1, 0)], [v]) (vs.take (j + 1 - 1)) = bstep most (xs, ms, tk) x) := Lib.hid (bfold_next hj1 HX.out hbf.out)
            cases ok with
            | false =>
              have HE := Lib.hid (bstep_no (tk := tk) HBD.out)
              go_wp2
              go_roundw
              case rel => exact ⟨j + 1, A, c, M, d, T, tc, n, m, t, xs, ms, tk, by omega, by omega, by omega, Nat.le_trans HT0.out U9.out.size, rfl, by go_num, HLN, Lib.hid (by have h := bstep_le (most := most) x hle.out; rwa [HE.out] at h), Lib.hid (by rw [NX.out, HE.out]), Lib.hid (own_upd hown.out U9.out (fun _ _ h => h)), b9, Lib.hid (hzz.out.upd U9.out (fun h => h)), Lib.hid (ha.out.upd0 U9.out), Lib.hid (hm2.out.upd0 U9.out), hsep, hsv, Lib.hid (hu.out.trans U9.out (fun _ h => h.elim))⟩
              case measure => simp [intOf]; omega
            | true =>
              have HE := Lib.hid (bstep_yes (tk := tk) HBD.out)
              have LE : Hid (BSle (j + 1) (xs', ms', tk ++ [x])) := Lib.hid (by have h := bstep_le (most := most) x hle.out; rwa [HE.out] at h)
              have c9 := B9.out.cell
              have f9 := b9.out.frz
              have hlw5 : lb < w5.heap.size := Nat.lt_of_lt_of_le hlb (Nat.le_trans hu.out.size HU5.out.size)
              have f5 := (hbb.out.upd HU5.out (fun h => h)).frz
              have g9 : w1.heap.size < w5.heap.size := Nat.lt_of_lt_of_le gr HU5.out.size
              have tA : Hid (Sep (w1.heap.size) A5) := Lib.hid (Sep.nw hsep.out.1 HNA5.out (Nat.lt_of_lt_of_le gr (by omega)))
              have tM : Hid (Sep (w1.heap.size) M5) := Lib.hid (Sep.nw hsep.out.2.1 HNM5.out (Nat.lt_of_lt_of_le gr (by omega)))
              have uA : Hid (Sep w.heap.size A5) := Lib.hid (Sep.nw hsep.out.2.2.1 HNA5.out (Nat.lt_of_lt_of_le hzz.out.lt (by omega)))
              have uM : Hid (Sep w.heap.size M5) := Lib.hid (Sep.nw hsep.out.2.2.2 HNM5.out (Nat.lt_of_lt_of_le hzz.out.lt (by omega)))
              have vA : Hid (SepV (.slice T t tc) A5) := Lib.hid (SepV.nw hsv.out.1 HNA5.out hown.out (by omega))
              have vM : Hid (SepV (.slice T t tc) M5) := Lib.hid (SepV.nw hsv.out.2 HNM5.out hown.out (by omega))
              have AA : Hid (Sl ((((w5.setCell ⟨w1.heap.size, 0, none⟩ (.slice A5 xs'.length c5)).setCell ⟨w1.heap.size, 1, none⟩ (.slice M5 ms'.length d5)).alloc (.cells #[.slice A5 xs'.length c5, .slice M5 ms'.length d5] 31)).alloc (.cells #[.int .i64 x.1, .int .i64 x.2] 58)) A5 xs'.length c5 (nums xs')) := Lib.hid ((((HA5.out.farS (p := ⟨w1.heap.size, 0, none⟩) tA.out _).farS (p := ⟨w1.heap.size, 1, none⟩) tA.out _).alloc _).alloc _)
              have MA : Hid (Sl ((((w5.setCell ⟨w1.heap.size, 0, none⟩ (.slice A5 xs'.length c5)).setCell ⟨w1.heap.size, 1, none⟩ (.slice M5 ms'.length d5)).alloc (.cells #[.slice A5 xs'.length c5, .slice M5 ms'.length d5] 31)).alloc (.cells #[.int .i64 x.1, .int .i64 x.2] 58)) M5 ms'.length d5 (prs ms')) := Lib.hid ((((HM5.out.farS (p := ⟨w1.heap.size, 0, none⟩) tM.out _).farS (p := ⟨w1.heap.size, 1, none⟩) tM.out _).alloc _).alloc _)
              have UA : Hid (Upd (fun _ => False) w ((((w5.setCell ⟨w1.heap.size, 0, none⟩ (.slice A5 xs'.length c5)).setCell ⟨w1.heap.size, 1, none⟩ (.slice M5 ms'.length d5)).alloc (.cells #[.slice A5 xs'.length c5, .slice M5 ms'.length d5] 31)).alloc (.cells #[.int .i64 x.1, .int .i64 x.2] 58))) := Lib.hid (((((hu.out.trans HU5.out (fun _ h => h.elim)).set (p := ⟨w1.heap.size, 0, none⟩) (.inr (Nat.le_of_lt gg)) _).set (p := ⟨w1.heap.size, 1, none⟩) (.inr (Nat.le_of_lt gg)) _).alloc _).alloc _)
              have BA : Hid (Blk ((((w5.setCell ⟨w1.heap.size, 0, none⟩ (.slice A5 xs'.length c5)).setCell ⟨w1.heap.size, 1, none⟩ (.slice M5 ms'.length d5)).alloc (.cells #[.slice A5 xs'.length c5, .slice M5 ms'.length d5] 31)).alloc (.cells #[.int .i64 x.1, .int .i64 x.2] 58)) (w1.heap.size) 31 #[.slice A5 xs'.length c5, .slice M5 ms'.length d5]) := Lib.hid (((((hbb.out.upd HU5.out (fun h => h)).set 0 (.slice A5 xs'.length c5)).set 1 (.slice M5 ms'.length d5)).alloc _).alloc _)
              have ZA : Hid (Blk ((((w5.setCell ⟨w1.heap.size, 0, none⟩ (.slice A5 xs'.length c5)).setCell ⟨w1.heap.size, 1, none⟩ (.slice M5 ms'.length d5)).alloc (.cells #[.slice A5 xs'.length c5, .slice M5 ms'.length d5] 31)).alloc (.cells #[.int .i64 x.1, .int .i64 x.2] 58)) w.heap.size 31 #[.slice none 0 0, .slice none 0 0]) := Lib.hid (((((hzz.out.upd HU5.out (fun h => h)).far (p := ⟨w1.heap.size, 0, none⟩) (show w.heap.size ≠ w1.heap.size from Nat.ne_of_lt gg) _).far (p := ⟨w1.heap.size, 1, none⟩) (show w.heap.size ≠ w1.heap.size from Nat.ne_of_lt gg) _).alloc _).alloc _)
              have OA : Hid (((((w5.setCell ⟨w1.heap.size, 0, none⟩ (.slice A5 xs'.length c5)).setCell ⟨w1.heap.size, 1, none⟩ (.slice M5 ms'.length d5)).alloc (.cells #[.slice A5 xs'.length c5, .slice M5 ms'.length d5] 31)).alloc (.cells #[.int .i64 x.1, .int .i64 x.2] 58)).ownsRow (w1.heap.size + 1) 58 2 (.slice T t tc) t (prs tk)) := Lib.hid ((((ownsRow_setCell_below (ownsRow_setCell_below (own_upd hown.out HU5.out (fun _ _ h => h)) (a := ⟨w1.heap.size, 0, none⟩) gt _) (a := ⟨w1.heap.size, 1, none⟩) gt _)).alloc _).alloc _)
              have hT0 : w1.heap.size + 1 ≤ w5.heap.size := by have := HU5.out.size; have := hu.out.size; have := hzz.out.lt; exact Nat.le_trans HT0.out HU5.out.size
              have WB : Hid (Blk ((((w5.setCell ⟨w1.heap.size, 0, none⟩ (.slice A5 xs'.length c5)).setCell ⟨w1.heap.size, 1, none⟩ (.slice M5 ms'.length d5)).alloc (.cells #[.slice A5 xs'.length c5, .slice M5 ms'.length d5] 31)).alloc (.cells #[.int .i64 x.1, .int .i64 x.2] 58)) (w5.heap.size + 1) 58 #[.int .i64 x.1, .int .i64 x.2]) := Lib.hid (Blk.newN _ (by simp))
              have tl : Hid (t ≤ 1000) := Lib.hid (by have := HL1.out.2.2; rw [HLN.out.2.2] at this; exact this)
              go_wp2_with (at_builtin; go_loud (refine wpList_append_lies _ rfl _ _ 54 rfl (w1.heap.size + 1) 58 i0 (.agg #[.int .i64 0, .int .i64 0]) 2 16 Try.underlying54 hj hz0 hz1 hz2 rfl (by decide) (.slice T t tc) t (prs tk) rfl OA.out ⟨w5.heap.size + 1, 0, none⟩ 1 1 [.int .i64 x.1, .int .i64 x.2] rfl rfl WB.out.news ?c5 (by omega) ?c7 ?c8 ?c9 (w5.heap.size + 1 + 1) (by simp) ?_); (case c5 => intro u hu; simp at hu; rcases hu with rfl | rfl <;> rfl); (case c7 => have := tl.out; unfold maxLen; omega); (case c8 => have := tl.out; omega); (case c9 => simp; omega); intro gg2 cp w6 hown6 hgrow hat hlt6; have hu6 := Upd.of_grown hgrow; have hs6 : w5.heap.size ≤ w6.heap.size := (by have := hu6.size; simp at this; omega); have OB : Hid (w6.ownsRow (w1.heap.size + 1) 58 2 (.slice (some ⟨gg2, 0, none⟩) (t + 1) cp) (t + 1) (prs (tk ++ [x]))) := Lib.hid (by rw [prs_app]; exact hown6); have UB : Hid (Upd (fun _ => False) w w6) := Lib.hid (UA.out.trans hu6 (fun i h => .inr (Nat.le_trans (Nat.le_of_lt (Nat.lt_trans gg gt)) (own_ge OA.out h)))); have BB6 := Lib.hid (BA.out.upd hu6 (own_ne OA.out gt)); have ZB := Lib.hid (ZA.out.upd hu6 (own_ne OA.out (Nat.lt_trans gg gt))); have AB := Lib.hid (AA.out.upd hu6 vA.out); have MB := Lib.hid (MA.out.upd hu6 vM.out); have wA : Hid (SepV (.slice (some ⟨gg2, 0, none⟩) (t + 1) cp) A5) := Lib.hid (SepV.row vA.out rfl hat (fun b o e => by have := AA.out.ltn LE.out.1 b o e; simpa using this)); have wM : Hid (SepV (.slice (some ⟨gg2, 0, none⟩) (t + 1) cp) M5) := Lib.hid (SepV.row vM.out rfl hat (fun b o e => by have := MA.out.ltp LE.out.2.2.1 b o e; simpa using this)); clear hown6 hgrow hat hu6)
              go_roundw
              case rel => exact ⟨j + 1, A5, c5, M5, d5, some ⟨gg2, 0, none⟩, cp, xs'.length, ms'.length, t + 1, xs', ms', tk ++ [x], by omega, by omega, by omega, Nat.le_trans HT0.out (Nat.le_trans HU5.out.size hs6), rfl, by go_num, Lib.hid ⟨rfl, rfl, by simp [HLN.out.2.2]⟩, LE, Lib.hid (by rw [NX.out, HE.out]), OB, BB6, ZB, AB, MB, Lib.hid ⟨tA.out, tM.out, uA.out, uM.out⟩, Lib.hid ⟨wA.out, wM.out⟩, UB⟩
              case measure => simp [intOf]; omega
          · have gA : Hid (∀ b o, A = some ⟨b, o, none⟩ → b < wr.heap.size) := Lib.hid (ha.out.ltn hle.out.1)
            have gM : Hid (∀ b o, M = some ⟨b, o, none⟩ → b < wr.heap.size) := Lib.hid (hm2.out.ltp hle.out.2.2.1)
            have sA5 : Hid (Sep wr.heap.size A5) := Lib.hid (Sep.nw_lt gA.out HNA5.out)
            have sM5 : Hid (Sep wr.heap.size M5) := Lib.hid (Sep.nw_lt gM.out HNM5.out)
            have U9 : Hid (Upd (fun _ => False) wr ((w5.setCell ⟨wr.heap.size, 0, none⟩ (.slice A5 xs'.length c5)).setCell ⟨wr.heap.size, 1, none⟩ (.slice M5 ms'.length d5))) := Lib.hid ((HU5.out.set (p := ⟨wr.heap.size, 0, none⟩) (.inr (Nat.le_refl _)) _).set (p := ⟨wr.heap.size, 1, none⟩) (.inr (Nat.le_refl _)) _)
            have A9 : Hid (Sl ((w5.setCell ⟨wr.heap.size, 0, none⟩ (.slice A5 xs'.length c5)).setCell ⟨wr.heap.size, 1, none⟩ (.slice M5 ms'.length d5)) A5 xs'.length c5 (nums xs')) := Lib.hid ((HA5.out.farS (p := ⟨wr.heap.size, 0, none⟩) sA5.out _).farS (p := ⟨wr.heap.size, 1, none⟩) sA5.out _)
            have M9 : Hid (Sl ((w5.setCell ⟨wr.heap.size, 0, none⟩ (.slice A5 xs'.length c5)).setCell ⟨wr.heap.size, 1, none⟩ (.slice M5 ms'.length d5)) M5 ms'.length d5 (prs ms')) := Lib.hid ((HM5.out.farS (p := ⟨wr.heap.size, 0, none⟩) sM5.out _).farS (p := ⟨wr.heap.size, 1, none⟩) sM5.out _)
            have B9 : Hid (Blk ((w5.setCell ⟨wr.heap.size, 0, none⟩ (.slice A5 xs'.length c5)).setCell ⟨wr.heap.size, 1, none⟩ (.slice M5 ms'.length d5)) wr.heap.size 31 #[.slice A5 xs'.length c5, .slice M5 ms'.length d5]) := Lib.hid ((HB5.out.set 0 (.slice A5 xs'.length c5)).set 1 (.slice M5 ms'.length d5))
            have b9 : Hid (Blk ((w5.setCell ⟨wr.heap.size, 0, none⟩ (.slice A5 xs'.length c5)).setCell ⟨wr.heap.size, 1, none⟩ (.slice M5 ms'.length d5)) (w1.heap.size) 31 #[.slice A n c, .slice M m d]) := Lib.hid (hbb.out.upd U9.out (fun h => h))
            have NX : Hid (bfold most ([v.2], [(v.1, 0)], [v]) (vs.take (j + 1 - 1)) = bstep most (xs, ms, tk) x) := Lib.hid (bfold_next hj1 HX.out hbf.out)
            cases ok with
            | false =>
              have HE := Lib.hid (bstep_no (tk := tk) HBD.out)
              go_wp2
              go_roundw
              case rel => exact ⟨j + 1, A, c, M, d, T, tc, n, m, t, xs, ms, tk, by omega, by omega, by omega, Nat.le_trans HT0.out U9.out.size, rfl, by go_num, HLN, Lib.hid (by have h := bstep_le (most := most) x hle.out; rwa [HE.out] at h), Lib.hid (by rw [NX.out, HE.out]), Lib.hid (own_upd hown.out U9.out (fun _ _ h => h)), b9, Lib.hid (hzz.out.upd U9.out (fun h => h)), Lib.hid (ha.out.upd0 U9.out), Lib.hid (hm2.out.upd0 U9.out), hsep, hsv, Lib.hid (hu.out.trans U9.out (fun _ h => h.elim))⟩
              case measure => simp [intOf]; omega
            | true =>
              have HE := Lib.hid (bstep_yes (tk := tk) HBD.out)
              have LE : Hid (BSle (j + 1) (xs', ms', tk ++ [x])) := Lib.hid (by have h := bstep_le (most := most) x hle.out; rwa [HE.out] at h)
              have c9 := B9.out.cell
              have f9 := b9.out.frz
              have hlw5 : lb < w5.heap.size := Nat.lt_of_lt_of_le hlb (Nat.le_trans hu.out.size HU5.out.size)
              have f5 := (hbb.out.upd HU5.out (fun h => h)).frz
              have g9 : w1.heap.size < w5.heap.size := Nat.lt_of_lt_of_le gr HU5.out.size
              have tA : Hid (Sep (w1.heap.size) A5) := Lib.hid (Sep.nw hsep.out.1 HNA5.out (Nat.lt_of_lt_of_le gr (by omega)))
              have tM : Hid (Sep (w1.heap.size) M5) := Lib.hid (Sep.nw hsep.out.2.1 HNM5.out (Nat.lt_of_lt_of_le gr (by omega)))
              have uA : Hid (Sep w.heap.size A5) := Lib.hid (Sep.nw hsep.out.2.2.1 HNA5.out (Nat.lt_of_lt_of_le hzz.out.lt (by omega)))
              have uM : Hid (Sep w.heap.size M5) := Lib.hid (Sep.nw hsep.out.2.2.2 HNM5.out (Nat.lt_of_lt_of_le hzz.out.lt (by omega)))
              have vA : Hid (SepV (.slice T t tc) A5) := Lib.hid (SepV.nw hsv.out.1 HNA5.out hown.out (by omega))
              have vM : Hid (SepV (.slice T t tc) M5) := Lib.hid (SepV.nw hsv.out.2 HNM5.out hown.out (by omega))
              have AA : Hid (Sl (((((w5.setCell ⟨wr.heap.size, 0, none⟩ (.slice A5 xs'.length c5)).setCell ⟨wr.heap.size, 1, none⟩ (.slice M5 ms'.length d5)).setCell ⟨w1.heap.size, 0, none⟩ (.slice A5 xs'.length c5)).setCell ⟨w1.heap.size, 1, none⟩ (.slice M5 ms'.length d5)).alloc (.cells #[.int .i64 x.1, .int .i64 x.2] 58)) A5 xs'.length c5 (nums xs')) := Lib.hid (((A9.out.farS (p := ⟨w1.heap.size, 0, none⟩) tA.out _).farS (p := ⟨w1.heap.size, 1, none⟩) tA.out _).alloc _)
              have MA : Hid (Sl (((((w5.setCell ⟨wr.heap.size, 0, none⟩ (.slice A5 xs'.length c5)).setCell ⟨wr.heap.size, 1, none⟩ (.slice M5 ms'.length d5)).setCell ⟨w1.heap.size, 0, none⟩ (.slice A5 xs'.length c5)).setCell ⟨w1.heap.size, 1, none⟩ (.slice M5 ms'.length d5)).alloc (.cells #[.int .i64 x.1, .int .i64 x.2] 58)) M5 ms'.length d5 (prs ms')) := Lib.hid (((M9.out.farS (p := ⟨w1.heap.size, 0, none⟩) tM.out _).farS (p := ⟨w1.heap.size, 1, none⟩) tM.out _).alloc _)
              have UA : Hid (Upd (fun _ => False) w (((((w5.setCell ⟨wr.heap.size, 0, none⟩ (.slice A5 xs'.length c5)).setCell ⟨wr.heap.size, 1, none⟩ (.slice M5 ms'.length d5)).setCell ⟨w1.heap.size, 0, none⟩ (.slice A5 xs'.length c5)).setCell ⟨w1.heap.size, 1, none⟩ (.slice M5 ms'.length d5)).alloc (.cells #[.int .i64 x.1, .int .i64 x.2] 58))) := Lib.hid ((((hu.out.trans U9.out (fun _ h => h.elim)).set (p := ⟨w1.heap.size, 0, none⟩) (.inr (Nat.le_of_lt gg)) _).set (p := ⟨w1.heap.size, 1, none⟩) (.inr (Nat.le_of_lt gg)) _).alloc _)
              have BA : Hid (Blk (((((w5.setCell ⟨wr.heap.size, 0, none⟩ (.slice A5 xs'.length c5)).setCell ⟨wr.heap.size, 1, none⟩ (.slice M5 ms'.length d5)).setCell ⟨w1.heap.size, 0, none⟩ (.slice A5 xs'.length c5)).setCell ⟨w1.heap.size, 1, none⟩ (.slice M5 ms'.length d5)).alloc (.cells #[.int .i64 x.1, .int .i64 x.2] 58)) (w1.heap.size) 31 #[.slice A5 xs'.length c5, .slice M5 ms'.length d5]) := Lib.hid (((b9.out.set 0 (.slice A5 xs'.length c5)).set 1 (.slice M5 ms'.length d5)).alloc _)
              have ZA : Hid (Blk (((((w5.setCell ⟨wr.heap.size, 0, none⟩ (.slice A5 xs'.length c5)).setCell ⟨wr.heap.size, 1, none⟩ (.slice M5 ms'.length d5)).setCell ⟨w1.heap.size, 0, none⟩ (.slice A5 xs'.length c5)).setCell ⟨w1.heap.size, 1, none⟩ (.slice M5 ms'.length d5)).alloc (.cells #[.int .i64 x.1, .int .i64 x.2] 58)) w.heap.size 31 #[.slice none 0 0, .slice none 0 0]) := Lib.hid ((((hzz.out.upd U9.out (fun h => h)).far (p := ⟨w1.heap.size, 0, none⟩) (show w.heap.size ≠ w1.heap.size from Nat.ne_of_lt gg) _).far (p := ⟨w1.heap.size, 1, none⟩) (show w.heap.size ≠ w1.heap.size from Nat.ne_of_lt gg) _).alloc _)
              have OA : Hid ((((((w5.setCell ⟨wr.heap.size, 0, none⟩ (.slice A5 xs'.length c5)).setCell ⟨wr.heap.size, 1, none⟩ (.slice M5 ms'.length d5)).setCell ⟨w1.heap.size, 0, none⟩ (.slice A5 xs'.length c5)).setCell ⟨w1.heap.size, 1, none⟩ (.slice M5 ms'.length d5)).alloc (.cells #[.int .i64 x.1, .int .i64 x.2] 58)).ownsRow (w1.heap.size + 1) 58 2 (.slice T t tc) t (prs tk)) := Lib.hid (((ownsRow_setCell_below (ownsRow_setCell_below (own_upd hown.out U9.out (fun _ _ h => h)) (a := ⟨w1.heap.size, 0, none⟩) gt _) (a := ⟨w1.heap.size, 1, none⟩) gt _)).alloc _)
              have hT0 : w1.heap.size + 1 ≤ w5.heap.size := by have := HU5.out.size; have := hu.out.size; have := hzz.out.lt; exact Nat.le_trans HT0.out HU5.out.size
              have WB : Hid (Blk (((((w5.setCell ⟨wr.heap.size, 0, none⟩ (.slice A5 xs'.length c5)).setCell ⟨wr.heap.size, 1, none⟩ (.slice M5 ms'.length d5)).setCell ⟨w1.heap.size, 0, none⟩ (.slice A5 xs'.length c5)).setCell ⟨w1.heap.size, 1, none⟩ (.slice M5 ms'.length d5)).alloc (.cells #[.int .i64 x.1, .int .i64 x.2] 58)) (w5.heap.size) 58 #[.int .i64 x.1, .int .i64 x.2]) := Lib.hid (Blk.newN _ (by simp))
              have tl : Hid (t ≤ 1000) := Lib.hid (by have := HL1.out.2.2; rw [HLN.out.2.2] at this; exact this)
              go_wp2_with (at_builtin; go_loud (refine wpList_append_lies _ rfl _ _ 54 rfl (w1.heap.size + 1) 58 i0 (.agg #[.int .i64 0, .int .i64 0]) 2 16 Try.underlying54 hj hz0 hz1 hz2 rfl (by decide) (.slice T t tc) t (prs tk) rfl OA.out ⟨w5.heap.size, 0, none⟩ 1 1 [.int .i64 x.1, .int .i64 x.2] rfl rfl WB.out.news ?c5 (by omega) ?c7 ?c8 ?c9 (w5.heap.size + 1) (by simp) ?_); (case c5 => intro u hu; simp at hu; rcases hu with rfl | rfl <;> rfl); (case c7 => have := tl.out; unfold maxLen; omega); (case c8 => have := tl.out; omega); (case c9 => simp; omega); intro gg2 cp w6 hown6 hgrow hat hlt6; have hu6 := Upd.of_grown hgrow; have hs6 : w5.heap.size ≤ w6.heap.size := (by have := hu6.size; simp at this; omega); have OB : Hid (w6.ownsRow (w1.heap.size + 1) 58 2 (.slice (some ⟨gg2, 0, none⟩) (t + 1) cp) (t + 1) (prs (tk ++ [x]))) := Lib.hid (by rw [prs_app]; exact hown6); have UB : Hid (Upd (fun _ => False) w w6) := Lib.hid (UA.out.trans hu6 (fun i h => .inr (Nat.le_trans (Nat.le_of_lt (Nat.lt_trans gg gt)) (own_ge OA.out h)))); have BB6 := Lib.hid (BA.out.upd hu6 (own_ne OA.out gt)); have ZB := Lib.hid (ZA.out.upd hu6 (own_ne OA.out (Nat.lt_trans gg gt))); have AB := Lib.hid (AA.out.upd hu6 vA.out); have MB := Lib.hid (MA.out.upd hu6 vM.out); have wA : Hid (SepV (.slice (some ⟨gg2, 0, none⟩) (t + 1) cp) A5) := Lib.hid (SepV.row vA.out rfl hat (fun b o e => by have := AA.out.ltn LE.out.1 b o e; simpa using this)); have wM : Hid (SepV (.slice (some ⟨gg2, 0, none⟩) (t + 1) cp) M5) := Lib.hid (SepV.row vM.out rfl hat (fun b o e => by have := MA.out.ltp LE.out.2.2.1 b o e; simpa using this)); clear hown6 hgrow hat hu6)
              go_roundw
              case rel => exact ⟨j + 1, A5, c5, M5, d5, some ⟨gg2, 0, none⟩, cp, xs'.length, ms'.length, t + 1, xs', ms', tk ++ [x], by omega, by omega, by omega, Nat.le_trans HT0.out (Nat.le_trans HU5.out.size hs6), rfl, by go_num, Lib.hid ⟨rfl, rfl, by simp [HLN.out.2.2]⟩, LE, Lib.hid (by rw [NX.out, HE.out]), OB, BB6, ZB, AB, MB, Lib.hid ⟨tA.out, tM.out, uA.out, uM.out⟩, Lib.hid ⟨wA.out, wM.out⟩, UB⟩
              case measure => simp [intOf]; omega
        · have HB := Lib.hid (bfold_end (most := most) (s := ([v.2], [(v.1, 0)], [v])) (vs := vs) hj1 (.inr (by omega)))
          have cb := hbb.out.cell
          have cz := hzz.out.cell
          have fz := hzz.out.frz
          have lz := hzz.out.lt
          go_wp2
          refine bodyPost_ret (v := .tuple #[.agg #[.slice A n c, .slice M m d], .slice T t tc]) (by simp [results, Try.results23, go_sem, cz, cb, lz]) rfl ?_
          have HR : Hid (ball most (v :: vs) = (xs, ms, tk)) := Lib.hid (HB.out.symm.trans hbf.out)
          obtain ⟨ln1, ln2, ln3⟩ := hlen.out
          obtain ⟨T2, tc2, e, hts, htb⟩ := Sl.of_own hown.out
          injection e with e1 e2 e3
          subst e1
          subst e3
          unfold AllPost
          rw [HR.out]
          refine ⟨A, c, M, d, T, tc, n, m, t, rfl, (ha.out.farS (p := ⟨w.heap.size, 0, none⟩) hsep.out.2.2.1 _).farS (p := ⟨w.heap.size, 1, none⟩) hsep.out.2.2.1 _, (hm2.out.farS (p := ⟨w.heap.size, 0, none⟩) hsep.out.2.2.2 _).farS (p := ⟨w.heap.size, 1, none⟩) hsep.out.2.2.2 _, (hts.farS (p := ⟨w.heap.size, 0, none⟩) (fun b o e => Nat.ne_of_gt (Nat.lt_of_lt_of_le (Nat.lt_trans gg gt) (htb b o e))) _).farS (p := ⟨w.heap.size, 1, none⟩) (fun b o e => Nat.ne_of_gt (Nat.lt_of_lt_of_le (Nat.lt_trans gg gt) (htb b o e))) _, ln1, ln2, ln3, ?_⟩
          exact ((hu.out.set (p := ⟨w.heap.size, 0, none⟩) (.inr (Nat.le_refl _)) _).set (p := ⟨w.heap.size, 1, none⟩) (.inr (Nat.le_refl _)) _).below0
      · have HB := Lib.hid (bfold_end (most := most) (s := ([v.2], [(v.1, 0)], [v])) (vs := vs) (j := j) hj1 (.inl ⟨by have := HL.out; omega, hj3⟩))
        have cb := hbb.out.cell
        have cz := hzz.out.cell
        have fz := hzz.out.frz
        have lz := hzz.out.lt
        go_wp2
        refine bodyPost_ret (v := .tuple #[.agg #[.slice A n c, .slice M m d], .slice T t tc]) (by simp [results, Try.results23, go_sem, cz, cb, lz]) rfl ?_
        have HR : Hid (ball most (v :: vs) = (xs, ms, tk)) := Lib.hid (HB.out.symm.trans hbf.out)
        obtain ⟨ln1, ln2, ln3⟩ := hlen.out
        obtain ⟨T2, tc2, e, hts, htb⟩ := Sl.of_own hown.out
        injection e with e1 e2 e3
        subst e1
        subst e3
        unfold AllPost
        rw [HR.out]
        refine ⟨A, c, M, d, T, tc, n, m, t, rfl, (ha.out.farS (p := ⟨w.heap.size, 0, none⟩) hsep.out.2.2.1 _).farS (p := ⟨w.heap.size, 1, none⟩) hsep.out.2.2.1 _, (hm2.out.farS (p := ⟨w.heap.size, 0, none⟩) hsep.out.2.2.2 _).farS (p := ⟨w.heap.size, 1, none⟩) hsep.out.2.2.2 _, (hts.farS (p := ⟨w.heap.size, 0, none⟩) (fun b o e => Nat.ne_of_gt (Nat.lt_of_lt_of_le (Nat.lt_trans gg gt) (htb b o e))) _).farS (p := ⟨w.heap.size, 1, none⟩) (fun b o e => Nat.ne_of_gt (Nat.lt_of_lt_of_le (Nat.lt_trans gg gt) (htb b o e))) _, ln1, ln2, ln3, ?_⟩
        exact ((hu.out.set (p := ⟨w.heap.size, 0, none⟩) (.inr (Nat.le_refl _)) _).set (p := ⟨w.heap.size, 1, none⟩) (.inr (Nat.le_refl _)) _).below0

  · have hSA : Hid (Sep (w.heap.size + 1) A1) := Lib.hid (fun b o e => by have := HNA.out b o e; omega)
    have hSM : Hid (Sep (w.heap.size + 1) M1) := Lib.hid (fun b o e => by have := HNM.out b o e; omega)
    have B1 : Hid (Blk ((w1.setCell ⟨w.heap.size + 1, 0, none⟩ (.slice A1 1 c1)).setCell ⟨w.heap.size + 1, 1, none⟩ (.slice M1 1 d1)) (w.heap.size + 1) 31 #[.slice A1 1 c1, .slice M1 1 d1]) := Lib.hid ((HB1.out.set 0 (.slice A1 1 c1)).set 1 (.slice M1 1 d1))
    have U1 : Hid (Upd (fun _ => False) w ((w1.setCell ⟨w.heap.size + 1, 0, none⟩ (.slice A1 1 c1)).setCell ⟨w.heap.size + 1, 1, none⟩ (.slice M1 1 d1))) := Lib.hid ((HU1.out.set (p := ⟨w.heap.size + 1, 0, none⟩) (.inr (Nat.le_succ _)) _).set (p := ⟨w.heap.size + 1, 1, none⟩) (.inr (Nat.le_succ _)) _)
    have Z1 : Hid (Blk ((w1.setCell ⟨w.heap.size + 1, 0, none⟩ (.slice A1 1 c1)).setCell ⟨w.heap.size + 1, 1, none⟩ (.slice M1 1 d1)) w.heap.size 31 #[.slice none 0 0, .slice none 0 0]) := Lib.hid ((HZ1.out.far (show w.heap.size ≠ w.heap.size + 1 from Nat.ne_of_lt (Nat.lt_succ_self _)) _).far (show w.heap.size ≠ w.heap.size + 1 from Nat.ne_of_lt (Nat.lt_succ_self _)) _)
    have SA1 : Hid (Sl ((w1.setCell ⟨w.heap.size + 1, 0, none⟩ (.slice A1 1 c1)).setCell ⟨w.heap.size + 1, 1, none⟩ (.slice M1 1 d1)) A1 1 c1 (nums [v.2])) := Lib.hid ((HA1.out.farS (p := ⟨w.heap.size + 1, 0, none⟩) hSA.out _).farS (p := ⟨w.heap.size + 1, 1, none⟩) hSA.out _)
    have SM1 : Hid (Sl ((w1.setCell ⟨w.heap.size + 1, 0, none⟩ (.slice A1 1 c1)).setCell ⟨w.heap.size + 1, 1, none⟩ (.slice M1 1 d1)) M1 1 d1 (prs [(v.1, 0)])) := Lib.hid ((HM1.out.farS (p := ⟨w.heap.size + 1, 0, none⟩) hSM.out _).farS (p := ⟨w.heap.size + 1, 1, none⟩) hSM.out _)
    have WB : Hid (Blk (((w1.setCell ⟨w.heap.size + 1, 0, none⟩ (.slice A1 1 c1)).setCell ⟨w.heap.size + 1, 1, none⟩ (.slice M1 1 d1)).alloc (.cells #[.int .i64 v.1, .int .i64 v.2] 58)) (w1.heap.size) 58 #[.int .i64 v.1, .int .i64 v.2]) := Lib.hid (Blk.newN _ (by simp))
    have OW : Hid ((((w1.setCell ⟨w.heap.size + 1, 0, none⟩ (.slice A1 1 c1)).setCell ⟨w.heap.size + 1, 1, none⟩ (.slice M1 1 d1)).alloc (.cells #[.int .i64 v.1, .int .i64 v.2] 58)).ownsRow (w1.heap.size) 58 2 (.slice (some ⟨w1.heap.size, 0, none⟩) 1 1) 1 (prs [v])) := Lib.hid (own_one WB.out (Nat.le_refl _))
    have hVA : Hid (SepV (.slice (some ⟨w1.heap.size, 0, none⟩) 1 1) A1) := Lib.hid (SepV.lt (fun b o e => (HNA.out b o e).2) (by omega))
    have hVM : Hid (SepV (.slice (some ⟨w1.heap.size, 0, none⟩) 1 1) M1) := Lib.hid (SepV.lt (fun b o e => (HNM.out b o e).2) (by omega))
    have hSAz : Hid (Sep w.heap.size A1) := Lib.hid (fun b o e => by have := HNA.out b o e; omega)
    have hSMz : Hid (Sep w.heap.size M1) := Lib.hid (fun b o e => by have := HNM.out b o e; omega)
    have gg : w.heap.size < w.heap.size + 1 := by omega
    have gt : w.heap.size + 1 < w1.heap.size := by omega
    go_wp2_with fail
    go_loopw [7, 8] (fun tv i wr => ∃ (j : Nat) (A : Option Addr) (c : Nat) (M : Option Addr) (d : Nat) (T : Option Addr) (tc n m t : Nat) (xs : List Int) (ms tk : List (Int × Int)), 1 ≤ j ∧ j ≤ len ∧ j ≤ 20 ∧ w1.heap.size ≤ wr.heap.size ∧ tv = .slice T t tc ∧ i = .int .i64 j ∧ Hid (xs.length = n ∧ ms.length = m ∧ tk.length = t) ∧ Hid (BSle j (xs, ms, tk)) ∧ Hid (bfold most ([v.2], [(v.1, 0)], [v]) (vs.take (j - 1)) = (xs, ms, tk)) ∧ Hid (wr.ownsRow (w1.heap.size) 58 2 (.slice T t tc) t (prs tk)) ∧ Hid (Blk wr (w.heap.size + 1) 31 #[.slice A n c, .slice M m d]) ∧ Hid (Blk wr w.heap.size 31 #[.slice none 0 0, .slice none 0 0]) ∧ Hid (Sl wr A n c (nums xs)) ∧ Hid (Sl wr M m d (prs ms)) ∧ Hid (Sep (w.heap.size + 1) A ∧ Sep (w.heap.size + 1) M ∧ Sep w.heap.size A ∧ Sep w.heap.size M) ∧ Hid (SepV (.slice T t tc) A ∧ SepV (.slice T t tc) M) ∧ Hid (Upd (fun _ => False) w wr)) (fun _ i _ => 20 - (intOf i).toNat)
    case atStart =>
      exact ⟨1, A1, c1, M1, d1, some ⟨w1.heap.size, 0, none⟩, 1, 1, 1, 1, [v.2], [(v.1, 0)], [v], by omega, by omega, by omega, by simp, rfl, rfl, Lib.hid ⟨rfl, rfl, rfl⟩, Lib.hid ⟨by simp, by simp, by simp, by simp, by simp⟩, Lib.hid rfl, OW, Lib.hid (B1.out.alloc _), Lib.hid (Z1.out.alloc _), Lib.hid (SA1.out.alloc _), Lib.hid (SM1.out.alloc _), Lib.hid ⟨hSA.out, hSM.out, hSAz.out, hSMz.out⟩, Lib.hid ⟨hVA.out, hVM.out⟩, Lib.hid (U1.out.alloc _)⟩
    case round =>
      obtain ⟨j, A, c, M, d, T, tc, n, m, t, xs, ms, tk, hj1, hj2, hj3, htz, rfl, rfl, hlen, hle, hbf, hown, hbb, hzz, ha, hm2, hsep, hsv, hu⟩ := hrel
      by_cases h1 : j < len
      · by_cases h2 : j < 20
        · obtain ⟨x, hx⟩ : ∃ x, (v :: vs)[j]? = some x := ⟨(v :: vs)[j]'(by have := HL.out; simp; omega), List.getElem?_eq_getElem _⟩
          obtain ⟨lb', lo', e, _, r0, r1⟩ := HS.out.pr hx
          injection e with e
          injection e with e1 e2
          subst e1
          subst e2
          have q0 := (hu.out.cellq (p := ⟨lb, lo + j * 2, none⟩) hlb (fun h => h)).trans r0
          have q1 := (hu.out.cellq (p := ⟨lb, lo + j * 2 + 1, none⟩) hlb (fun h => h)).trans r1
          have cb := hbb.out.cell
          have y0 := cb 0
          have y1 := cb 1
          have fb := hbb.out.frz
          have gr : w.heap.size + 1 < wr.heap.size := hbb.out.lt
          obtain ⟨xs', ms', ok, hb⟩ : ∃ xs' ms' ok, badd xs ms x.1 x.2 most = (xs', ms', ok) := ⟨_, _, _, rfl⟩
          have HBD := Lib.hid hb
          have HX := Lib.hid hx
          have i0' : (0 : Int) ≤ (j : Int) := Int.natCast_nonneg _
          have i1' : (j : Int) < (len : Int) := by omega
          have hlb1 : lb ≠ w.heap.size + 1 := by omega
          have hlb2 : wr.heap.size ≠ lb := by omega
          have hnr : wr.heap.size ≠ w.heap.size + 1 := by omega
          have hle1 : xs.length ≤ 1000 := by have := hle.out.2.1; simp only at this; omega
          have hle2 : ms.length ≤ 1000 := by have := hle.out.2.2.2.1; simp only at this; omega
          have hle3 : tk.length ≤ 1000 := by have := hle.out.2.2.2.2; simp only at this; omega
          have HT0 : Hid (w1.heap.size ≤ wr.heap.size) := Lib.hid htz
          obtain ⟨ln1, ln2, ln3⟩ := hlen.out
          have HLN := Lib.hid (And.intro ln1 (And.intro ln2 ln3))
          have HL1 := Lib.hid (And.intro hle1 (And.intro hle2 hle3))
          clear hb hx r0 r1 ln1 ln2 ln3 hle1 hle2 hle3
          go_wp2_with fail
          go_region_held3 (fun w' => w'.cell? ⟨w.heap.size + 1, 0, none⟩ = some (.slice A n c) ∧ w'.cell? ⟨w.heap.size + 1, 1, none⟩ = some (.slice M m d) ∧ w'.cell? ⟨lb, lo + j * 2, none⟩ = some (.int .i64 x.1) ∧ w'.cell? ⟨lb, lo + j * 2 + 1, none⟩ = some (.int .i64 x.2)) (go_keep) (first | (go_at_call 11; refine (add_to HBD.out HLN.out.1 HLN.out.2.1 rfl rfl (by have := HL1.out.1; rw [HLN.out.1] at this; exact this) (by have := HL1.out.2.1; rw [HLN.out.2.1] at this; exact this) _ ((ha.out.alloc _).drew) ((hm2.out.alloc _).drew)).mono ?_; rintro e w5 ⟨A5, c5, M5, d5, rfl, ha5, hm5, hna, hnm, hd⟩; have hd0 := Upd.of_below hd (fun _ => False); simp only [World.size_drew, World.size_alloc] at hna hnm; have hs5 := hd0.size; simp only [World.size_drew, World.size_alloc] at hs5; have HU5 : Hid (Upd (fun _ => False) wr w5) := Lib.hid ((((Upd.refl (fun _ => False) wr).alloc (.cells #[.slice none 0 0, .slice none 0 0] 31)).drew).trans hd0 (fun _ h => h.elim)); have hb5 : Blk w5 wr.heap.size 31 #[.slice none 0 0, .slice none 0 0] := Blk.upd (Blk.new wr _ 31).drew hd0 (fun h => h); have c5b := hb5.cell; have f5b := hb5.frz; have HB5 := Lib.hid hb5; clear hb5; have z0 := (HU5.out.cellq (p := ⟨w.heap.size + 1, 0, none⟩) gr (fun h => h)).trans y0; have z1 := (HU5.out.cellq (p := ⟨w.heap.size + 1, 1, none⟩) gr (fun h => h)).trans y1; have z2 := (HU5.out.cellq (p := ⟨lb, lo + j * 2, none⟩) (Nat.lt_of_lt_of_le hlb hu.out.size) (fun h => h)).trans q0; have z3 := (HU5.out.cellq (p := ⟨lb, lo + j * 2 + 1, none⟩) (Nat.lt_of_lt_of_le hlb hu.out.size) (fun h => h)).trans q1; have HA5 := Lib.hid ha5; have HM5 := Lib.hid hm5; have HNA5 := Lib.hid hna; have HNM5 := Lib.hid hnm; clear ha5 hm5 hna hnm hd hd0) | (go_at_call 11; refine (add_to HBD.out HLN.out.1 HLN.out.2.1 rfl rfl (by have := HL1.out.1; rw [HLN.out.1] at this; exact this) (by have := HL1.out.2.1; rw [HLN.out.2.1] at this; exact this) _ ha.out.drew hm2.out.drew).mono ?_; rintro e w5 ⟨A5, c5, M5, d5, rfl, ha5, hm5, hna, hnm, hd⟩; have hd0 := Upd.of_below hd (fun _ => False); simp only [World.size_drew, World.size_alloc] at hna hnm; have hs5 := hd0.size; simp only [World.size_drew, World.size_alloc] at hs5; have HU5 : Hid (Upd (fun _ => False) wr w5) := Lib.hid (((Upd.refl (fun _ => False) wr).drew).trans hd0 (fun _ h => h.elim)); have hn5 : w5.heap.size ≠ lb := Nat.ne_of_gt (Nat.lt_of_lt_of_le (Nat.lt_of_lt_of_le hlb hu.out.size) hs5); have hn6 : w5.heap.size ≠ w.heap.size + 1 := Nat.ne_of_gt (Nat.lt_of_lt_of_le gr hs5); have z0 := (HU5.out.cellq (p := ⟨w.heap.size + 1, 0, none⟩) gr (fun h => h)).trans y0; have z1 := (HU5.out.cellq (p := ⟨w.heap.size + 1, 1, none⟩) gr (fun h => h)).trans y1; have z2 := (HU5.out.cellq (p := ⟨lb, lo + j * 2, none⟩) (Nat.lt_of_lt_of_le hlb hu.out.size) (fun h => h)).trans q0; have z3 := (HU5.out.cellq (p := ⟨lb, lo + j * 2 + 1, none⟩) (Nat.lt_of_lt_of_le hlb hu.out.size) (fun h => h)).trans q1; have HA5 := Lib.hid ha5; have HM5 := Lib.hid hm5; have HNA5 := Lib.hid hna; have HNM5 := Lib.hid hnm; clear ha5 hm5 hna hnm hd hd0))
          · have gA : Hid (∀ b o, A = some ⟨b, o, none⟩ → b < wr.heap.size) := Lib.hid (ha.out.ltn hle.out.1)
            have gM : Hid (∀ b o, M = some ⟨b, o, none⟩ → b < wr.heap.size) := Lib.hid (hm2.out.ltp hle.out.2.2.1)
            have U9 : Hid (Upd (fun _ => False) wr (w5.alloc (.cells #[.slice A5 xs'.length c5, .slice M5 ms'.length d5] 31))) := Lib.hid (HU5.out.alloc _)
            have A9 : Hid (Sl (w5.alloc (.cells #[.slice A5 xs'.length c5, .slice M5 ms'.length d5] 31)) A5 xs'.length c5 (nums xs')) := Lib.hid (HA5.out.alloc _)
            have M9 : Hid (Sl (w5.alloc (.cells #[.slice A5 xs'.length c5, .slice M5 ms'.length d5] 31)) M5 ms'.length d5 (prs ms')) := Lib.hid (HM5.out.alloc _)
            have B9 : Hid (Blk (w5.alloc (.cells #[.slice A5 xs'.length c5, .slice M5 ms'.length d5] 31)) w5.heap.size 31 #[.slice A5 xs'.length c5, .slice M5 ms'.length d5]) := Lib.hid (Blk.new _ _ _)
            have b9 : Hid (Blk (w5.alloc (.cells #[.slice A5 xs'.length c5, .slice M5 ms'.length d5] 31)) (w.heap.size + 1) 31 #[.slice A n c, .slice M m d]) := Lib.hid (hbb.out.upd U9.out (fun h => h))
            have NX : Hid (bfold most ([v.2], [(v.1, 0)], [v]) (vs.take (j + 1 - 1)) = bstep most (xs, ms, tk) x) := Lib.hid (bfold_next hj1 HX.out hbf.out)
            cases ok with
            | false =>
              have HE := Lib.hid (bstep_no (tk := tk) HBD.out)
              go_wp2
              go_roundw
              case rel => exact ⟨j + 1, A, c, M, d, T, tc, n, m, t, xs, ms, tk, by omega, by omega, by omega, Nat.le_trans HT0.out U9.out.size, rfl, by go_num, HLN, Lib.hid (by have h := bstep_le (most := most) x hle.out; rwa [HE.out] at h), Lib.hid (by rw [NX.out, HE.out]), Lib.hid (own_upd hown.out U9.out (fun _ _ h => h)), b9, Lib.hid (hzz.out.upd U9.out (fun h => h)), Lib.hid (ha.out.upd0 U9.out), Lib.hid (hm2.out.upd0 U9.out), hsep, hsv, Lib.hid (hu.out.trans U9.out (fun _ h => h.elim))⟩
              case measure => simp [intOf]; omega
            | true =>
              have HE := Lib.hid (bstep_yes (tk := tk) HBD.out)
              have LE : Hid (BSle (j + 1) (xs', ms', tk ++ [x])) := Lib.hid (by have h := bstep_le (most := most) x hle.out; rwa [HE.out] at h)
              have c9 := B9.out.cell
              have f9 := b9.out.frz
              have hlw5 : lb < w5.heap.size := Nat.lt_of_lt_of_le hlb (Nat.le_trans hu.out.size HU5.out.size)
              have f5 := (hbb.out.upd HU5.out (fun h => h)).frz
              have g9 : w.heap.size + 1 < w5.heap.size := Nat.lt_of_lt_of_le gr HU5.out.size
              have tA : Hid (Sep (w.heap.size + 1) A5) := Lib.hid (Sep.nw hsep.out.1 HNA5.out (Nat.lt_of_lt_of_le gr (by omega)))
              have tM : Hid (Sep (w.heap.size + 1) M5) := Lib.hid (Sep.nw hsep.out.2.1 HNM5.out (Nat.lt_of_lt_of_le gr (by omega)))
              have uA : Hid (Sep w.heap.size A5) := Lib.hid (Sep.nw hsep.out.2.2.1 HNA5.out (Nat.lt_of_lt_of_le hzz.out.lt (by omega)))
              have uM : Hid (Sep w.heap.size M5) := Lib.hid (Sep.nw hsep.out.2.2.2 HNM5.out (Nat.lt_of_lt_of_le hzz.out.lt (by omega)))
              have vA : Hid (SepV (.slice T t tc) A5) := Lib.hid (SepV.nw hsv.out.1 HNA5.out hown.out (by omega))
              have vM : Hid (SepV (.slice T t tc) M5) := Lib.hid (SepV.nw hsv.out.2 HNM5.out hown.out (by omega))
              have AA : Hid (Sl ((((w5.setCell ⟨w.heap.size + 1, 0, none⟩ (.slice A5 xs'.length c5)).setCell ⟨w.heap.size + 1, 1, none⟩ (.slice M5 ms'.length d5)).alloc (.cells #[.slice A5 xs'.length c5, .slice M5 ms'.length d5] 31)).alloc (.cells #[.int .i64 x.1, .int .i64 x.2] 58)) A5 xs'.length c5 (nums xs')) := Lib.hid ((((HA5.out.farS (p := ⟨w.heap.size + 1, 0, none⟩) tA.out _).farS (p := ⟨w.heap.size + 1, 1, none⟩) tA.out _).alloc _).alloc _)
              have MA : Hid (Sl ((((w5.setCell ⟨w.heap.size + 1, 0, none⟩ (.slice A5 xs'.length c5)).setCell ⟨w.heap.size + 1, 1, none⟩ (.slice M5 ms'.length d5)).alloc (.cells #[.slice A5 xs'.length c5, .slice M5 ms'.length d5] 31)).alloc (.cells #[.int .i64 x.1, .int .i64 x.2] 58)) M5 ms'.length d5 (prs ms')) := Lib.hid ((((HM5.out.farS (p := ⟨w.heap.size + 1, 0, none⟩) tM.out _).farS (p := ⟨w.heap.size + 1, 1, none⟩) tM.out _).alloc _).alloc _)
              have UA : Hid (Upd (fun _ => False) w ((((w5.setCell ⟨w.heap.size + 1, 0, none⟩ (.slice A5 xs'.length c5)).setCell ⟨w.heap.size + 1, 1, none⟩ (.slice M5 ms'.length d5)).alloc (.cells #[.slice A5 xs'.length c5, .slice M5 ms'.length d5] 31)).alloc (.cells #[.int .i64 x.1, .int .i64 x.2] 58))) := Lib.hid (((((hu.out.trans HU5.out (fun _ h => h.elim)).set (p := ⟨w.heap.size + 1, 0, none⟩) (.inr (Nat.le_of_lt gg)) _).set (p := ⟨w.heap.size + 1, 1, none⟩) (.inr (Nat.le_of_lt gg)) _).alloc _).alloc _)
              have BA : Hid (Blk ((((w5.setCell ⟨w.heap.size + 1, 0, none⟩ (.slice A5 xs'.length c5)).setCell ⟨w.heap.size + 1, 1, none⟩ (.slice M5 ms'.length d5)).alloc (.cells #[.slice A5 xs'.length c5, .slice M5 ms'.length d5] 31)).alloc (.cells #[.int .i64 x.1, .int .i64 x.2] 58)) (w.heap.size + 1) 31 #[.slice A5 xs'.length c5, .slice M5 ms'.length d5]) := Lib.hid (((((hbb.out.upd HU5.out (fun h => h)).set 0 (.slice A5 xs'.length c5)).set 1 (.slice M5 ms'.length d5)).alloc _).alloc _)
              have ZA : Hid (Blk ((((w5.setCell ⟨w.heap.size + 1, 0, none⟩ (.slice A5 xs'.length c5)).setCell ⟨w.heap.size + 1, 1, none⟩ (.slice M5 ms'.length d5)).alloc (.cells #[.slice A5 xs'.length c5, .slice M5 ms'.length d5] 31)).alloc (.cells #[.int .i64 x.1, .int .i64 x.2] 58)) w.heap.size 31 #[.slice none 0 0, .slice none 0 0]) := Lib.hid (((((hzz.out.upd HU5.out (fun h => h)).far (p := ⟨w.heap.size + 1, 0, none⟩) (show w.heap.size ≠ w.heap.size + 1 from Nat.ne_of_lt gg) _).far (p := ⟨w.heap.size + 1, 1, none⟩) (show w.heap.size ≠ w.heap.size + 1 from Nat.ne_of_lt gg) _).alloc _).alloc _)
              have OA : Hid (((((w5.setCell ⟨w.heap.size + 1, 0, none⟩ (.slice A5 xs'.length c5)).setCell ⟨w.heap.size + 1, 1, none⟩ (.slice M5 ms'.length d5)).alloc (.cells #[.slice A5 xs'.length c5, .slice M5 ms'.length d5] 31)).alloc (.cells #[.int .i64 x.1, .int .i64 x.2] 58)).ownsRow (w1.heap.size) 58 2 (.slice T t tc) t (prs tk)) := Lib.hid ((((ownsRow_setCell_below (ownsRow_setCell_below (own_upd hown.out HU5.out (fun _ _ h => h)) (a := ⟨w.heap.size + 1, 0, none⟩) gt _) (a := ⟨w.heap.size + 1, 1, none⟩) gt _)).alloc _).alloc _)
              have hT0 : w1.heap.size ≤ w5.heap.size := by have := HU5.out.size; have := hu.out.size; have := hzz.out.lt; exact Nat.le_trans HT0.out HU5.out.size
              have WB : Hid (Blk ((((w5.setCell ⟨w.heap.size + 1, 0, none⟩ (.slice A5 xs'.length c5)).setCell ⟨w.heap.size + 1, 1, none⟩ (.slice M5 ms'.length d5)).alloc (.cells #[.slice A5 xs'.length c5, .slice M5 ms'.length d5] 31)).alloc (.cells #[.int .i64 x.1, .int .i64 x.2] 58)) (w5.heap.size + 1) 58 #[.int .i64 x.1, .int .i64 x.2]) := Lib.hid (Blk.newN _ (by simp))
              have tl : Hid (t ≤ 1000) := Lib.hid (by have := HL1.out.2.2; rw [HLN.out.2.2] at this; exact this)
              go_wp2_with (at_builtin; go_loud (refine wpList_append_lies _ rfl _ _ 54 rfl (w1.heap.size) 58 i0 (.agg #[.int .i64 0, .int .i64 0]) 2 16 Try.underlying54 hj hz0 hz1 hz2 rfl (by decide) (.slice T t tc) t (prs tk) rfl OA.out ⟨w5.heap.size + 1, 0, none⟩ 1 1 [.int .i64 x.1, .int .i64 x.2] rfl rfl WB.out.news ?c5 (by omega) ?c7 ?c8 ?c9 (w5.heap.size + 1 + 1) (by simp) ?_); (case c5 => intro u hu; simp at hu; rcases hu with rfl | rfl <;> rfl); (case c7 => have := tl.out; unfold maxLen; omega); (case c8 => have := tl.out; omega); (case c9 => simp; omega); intro gg2 cp w6 hown6 hgrow hat hlt6; have hu6 := Upd.of_grown hgrow; have hs6 : w5.heap.size ≤ w6.heap.size := (by have := hu6.size; simp at this; omega); have OB : Hid (w6.ownsRow (w1.heap.size) 58 2 (.slice (some ⟨gg2, 0, none⟩) (t + 1) cp) (t + 1) (prs (tk ++ [x]))) := Lib.hid (by rw [prs_app]; exact hown6); have UB : Hid (Upd (fun _ => False) w w6) := Lib.hid (UA.out.trans hu6 (fun i h => .inr (Nat.le_trans (Nat.le_of_lt (Nat.lt_trans gg gt)) (own_ge OA.out h)))); have BB6 := Lib.hid (BA.out.upd hu6 (own_ne OA.out gt)); have ZB := Lib.hid (ZA.out.upd hu6 (own_ne OA.out (Nat.lt_trans gg gt))); have AB := Lib.hid (AA.out.upd hu6 vA.out); have MB := Lib.hid (MA.out.upd hu6 vM.out); have wA : Hid (SepV (.slice (some ⟨gg2, 0, none⟩) (t + 1) cp) A5) := Lib.hid (SepV.row vA.out rfl hat (fun b o e => by have := AA.out.ltn LE.out.1 b o e; simpa using this)); have wM : Hid (SepV (.slice (some ⟨gg2, 0, none⟩) (t + 1) cp) M5) := Lib.hid (SepV.row vM.out rfl hat (fun b o e => by have := MA.out.ltp LE.out.2.2.1 b o e; simpa using this)); clear hown6 hgrow hat hu6)
              go_roundw
              case rel => exact ⟨j + 1, A5, c5, M5, d5, some ⟨gg2, 0, none⟩, cp, xs'.length, ms'.length, t + 1, xs', ms', tk ++ [x], by omega, by omega, by omega, Nat.le_trans HT0.out (Nat.le_trans HU5.out.size hs6), rfl, by go_num, Lib.hid ⟨rfl, rfl, by simp [HLN.out.2.2]⟩, LE, Lib.hid (by rw [NX.out, HE.out]), OB, BB6, ZB, AB, MB, Lib.hid ⟨tA.out, tM.out, uA.out, uM.out⟩, Lib.hid ⟨wA.out, wM.out⟩, UB⟩
              case measure => simp [intOf]; omega
          · have gA : Hid (∀ b o, A = some ⟨b, o, none⟩ → b < wr.heap.size) := Lib.hid (ha.out.ltn hle.out.1)
            have gM : Hid (∀ b o, M = some ⟨b, o, none⟩ → b < wr.heap.size) := Lib.hid (hm2.out.ltp hle.out.2.2.1)
            have sA5 : Hid (Sep wr.heap.size A5) := Lib.hid (Sep.nw_lt gA.out HNA5.out)
            have sM5 : Hid (Sep wr.heap.size M5) := Lib.hid (Sep.nw_lt gM.out HNM5.out)
            have U9 : Hid (Upd (fun _ => False) wr ((w5.setCell ⟨wr.heap.size, 0, none⟩ (.slice A5 xs'.length c5)).setCell ⟨wr.heap.size, 1, none⟩ (.slice M5 ms'.length d5))) := Lib.hid ((HU5.out.set (p := ⟨wr.heap.size, 0, none⟩) (.inr (Nat.le_refl _)) _).set (p := ⟨wr.heap.size, 1, none⟩) (.inr (Nat.le_refl _)) _)
            have A9 : Hid (Sl ((w5.setCell ⟨wr.heap.size, 0, none⟩ (.slice A5 xs'.length c5)).setCell ⟨wr.heap.size, 1, none⟩ (.slice M5 ms'.length d5)) A5 xs'.length c5 (nums xs')) := Lib.hid ((HA5.out.farS (p := ⟨wr.heap.size, 0, none⟩) sA5.out _).farS (p := ⟨wr.heap.size, 1, none⟩) sA5.out _)
            have M9 : Hid (Sl ((w5.setCell ⟨wr.heap.size, 0, none⟩ (.slice A5 xs'.length c5)).setCell ⟨wr.heap.size, 1, none⟩ (.slice M5 ms'.length d5)) M5 ms'.length d5 (prs ms')) := Lib.hid ((HM5.out.farS (p := ⟨wr.heap.size, 0, none⟩) sM5.out _).farS (p := ⟨wr.heap.size, 1, none⟩) sM5.out _)
            have B9 : Hid (Blk ((w5.setCell ⟨wr.heap.size, 0, none⟩ (.slice A5 xs'.length c5)).setCell ⟨wr.heap.size, 1, none⟩ (.slice M5 ms'.length d5)) wr.heap.size 31 #[.slice A5 xs'.length c5, .slice M5 ms'.length d5]) := Lib.hid ((HB5.out.set 0 (.slice A5 xs'.length c5)).set 1 (.slice M5 ms'.length d5))
            have b9 : Hid (Blk ((w5.setCell ⟨wr.heap.size, 0, none⟩ (.slice A5 xs'.length c5)).setCell ⟨wr.heap.size, 1, none⟩ (.slice M5 ms'.length d5)) (w.heap.size + 1) 31 #[.slice A n c, .slice M m d]) := Lib.hid (hbb.out.upd U9.out (fun h => h))
            have NX : Hid (bfold most ([v.2], [(v.1, 0)], [v]) (vs.take (j + 1 - 1)) = bstep most (xs, ms, tk) x) := Lib.hid (bfold_next hj1 HX.out hbf.out)
            cases ok with
            | false =>
              have HE := Lib.hid (bstep_no (tk := tk) HBD.out)
              go_wp2
              go_roundw
              case rel => exact ⟨j + 1, A, c, M, d, T, tc, n, m, t, xs, ms, tk, by omega, by omega, by omega, Nat.le_trans HT0.out U9.out.size, rfl, by go_num, HLN, Lib.hid (by have h := bstep_le (most := most) x hle.out; rwa [HE.out] at h), Lib.hid (by rw [NX.out, HE.out]), Lib.hid (own_upd hown.out U9.out (fun _ _ h => h)), b9, Lib.hid (hzz.out.upd U9.out (fun h => h)), Lib.hid (ha.out.upd0 U9.out), Lib.hid (hm2.out.upd0 U9.out), hsep, hsv, Lib.hid (hu.out.trans U9.out (fun _ h => h.elim))⟩
              case measure => simp [intOf]; omega
            | true =>
              have HE := Lib.hid (bstep_yes (tk := tk) HBD.out)
              have LE : Hid (BSle (j + 1) (xs', ms', tk ++ [x])) := Lib.hid (by have h := bstep_le (most := most) x hle.out; rwa [HE.out] at h)
              have c9 := B9.out.cell
              have f9 := b9.out.frz
              have hlw5 : lb < w5.heap.size := Nat.lt_of_lt_of_le hlb (Nat.le_trans hu.out.size HU5.out.size)
              have f5 := (hbb.out.upd HU5.out (fun h => h)).frz
              have g9 : w.heap.size + 1 < w5.heap.size := Nat.lt_of_lt_of_le gr HU5.out.size
              have tA : Hid (Sep (w.heap.size + 1) A5) := Lib.hid (Sep.nw hsep.out.1 HNA5.out (Nat.lt_of_lt_of_le gr (by omega)))
              have tM : Hid (Sep (w.heap.size + 1) M5) := Lib.hid (Sep.nw hsep.out.2.1 HNM5.out (Nat.lt_of_lt_of_le gr (by omega)))
              have uA : Hid (Sep w.heap.size A5) := Lib.hid (Sep.nw hsep.out.2.2.1 HNA5.out (Nat.lt_of_lt_of_le hzz.out.lt (by omega)))
              have uM : Hid (Sep w.heap.size M5) := Lib.hid (Sep.nw hsep.out.2.2.2 HNM5.out (Nat.lt_of_lt_of_le hzz.out.lt (by omega)))
              have vA : Hid (SepV (.slice T t tc) A5) := Lib.hid (SepV.nw hsv.out.1 HNA5.out hown.out (by omega))
              have vM : Hid (SepV (.slice T t tc) M5) := Lib.hid (SepV.nw hsv.out.2 HNM5.out hown.out (by omega))
              have AA : Hid (Sl (((((w5.setCell ⟨wr.heap.size, 0, none⟩ (.slice A5 xs'.length c5)).setCell ⟨wr.heap.size, 1, none⟩ (.slice M5 ms'.length d5)).setCell ⟨w.heap.size + 1, 0, none⟩ (.slice A5 xs'.length c5)).setCell ⟨w.heap.size + 1, 1, none⟩ (.slice M5 ms'.length d5)).alloc (.cells #[.int .i64 x.1, .int .i64 x.2] 58)) A5 xs'.length c5 (nums xs')) := Lib.hid (((A9.out.farS (p := ⟨w.heap.size + 1, 0, none⟩) tA.out _).farS (p := ⟨w.heap.size + 1, 1, none⟩) tA.out _).alloc _)
              have MA : Hid (Sl (((((w5.setCell ⟨wr.heap.size, 0, none⟩ (.slice A5 xs'.length c5)).setCell ⟨wr.heap.size, 1, none⟩ (.slice M5 ms'.length d5)).setCell ⟨w.heap.size + 1, 0, none⟩ (.slice A5 xs'.length c5)).setCell ⟨w.heap.size + 1, 1, none⟩ (.slice M5 ms'.length d5)).alloc (.cells #[.int .i64 x.1, .int .i64 x.2] 58)) M5 ms'.length d5 (prs ms')) := Lib.hid (((M9.out.farS (p := ⟨w.heap.size + 1, 0, none⟩) tM.out _).farS (p := ⟨w.heap.size + 1, 1, none⟩) tM.out _).alloc _)
              have UA : Hid (Upd (fun _ => False) w (((((w5.setCell ⟨wr.heap.size, 0, none⟩ (.slice A5 xs'.length c5)).setCell ⟨wr.heap.size, 1, none⟩ (.slice M5 ms'.length d5)).setCell ⟨w.heap.size + 1, 0, none⟩ (.slice A5 xs'.length c5)).setCell ⟨w.heap.size + 1, 1, none⟩ (.slice M5 ms'.length d5)).alloc (.cells #[.int .i64 x.1, .int .i64 x.2] 58))) := Lib.hid ((((hu.out.trans U9.out (fun _ h => h.elim)).set (p := ⟨w.heap.size + 1, 0, none⟩) (.inr (Nat.le_of_lt gg)) _).set (p := ⟨w.heap.size + 1, 1, none⟩) (.inr (Nat.le_of_lt gg)) _).alloc _)
              have BA : Hid (Blk (((((w5.setCell ⟨wr.heap.size, 0, none⟩ (.slice A5 xs'.length c5)).setCell ⟨wr.heap.size, 1, none⟩ (.slice M5 ms'.length d5)).setCell ⟨w.heap.size + 1, 0, none⟩ (.slice A5 xs'.length c5)).setCell ⟨w.heap.size + 1, 1, none⟩ (.slice M5 ms'.length d5)).alloc (.cells #[.int .i64 x.1, .int .i64 x.2] 58)) (w.heap.size + 1) 31 #[.slice A5 xs'.length c5, .slice M5 ms'.length d5]) := Lib.hid (((b9.out.set 0 (.slice A5 xs'.length c5)).set 1 (.slice M5 ms'.length d5)).alloc _)
              have ZA : Hid (Blk (((((w5.setCell ⟨wr.heap.size, 0, none⟩ (.slice A5 xs'.length c5)).setCell ⟨wr.heap.size, 1, none⟩ (.slice M5 ms'.length d5)).setCell ⟨w.heap.size + 1, 0, none⟩ (.slice A5 xs'.length c5)).setCell ⟨w.heap.size + 1, 1, none⟩ (.slice M5 ms'.length d5)).alloc (.cells #[.int .i64 x.1, .int .i64 x.2] 58)) w.heap.size 31 #[.slice none 0 0, .slice none 0 0]) := Lib.hid ((((hzz.out.upd U9.out (fun h => h)).far (p := ⟨w.heap.size + 1, 0, none⟩) (show w.heap.size ≠ w.heap.size + 1 from Nat.ne_of_lt gg) _).far (p := ⟨w.heap.size + 1, 1, none⟩) (show w.heap.size ≠ w.heap.size + 1 from Nat.ne_of_lt gg) _).alloc _)
              have OA : Hid ((((((w5.setCell ⟨wr.heap.size, 0, none⟩ (.slice A5 xs'.length c5)).setCell ⟨wr.heap.size, 1, none⟩ (.slice M5 ms'.length d5)).setCell ⟨w.heap.size + 1, 0, none⟩ (.slice A5 xs'.length c5)).setCell ⟨w.heap.size + 1, 1, none⟩ (.slice M5 ms'.length d5)).alloc (.cells #[.int .i64 x.1, .int .i64 x.2] 58)).ownsRow (w1.heap.size) 58 2 (.slice T t tc) t (prs tk)) := Lib.hid (((ownsRow_setCell_below (ownsRow_setCell_below (own_upd hown.out U9.out (fun _ _ h => h)) (a := ⟨w.heap.size + 1, 0, none⟩) gt _) (a := ⟨w.heap.size + 1, 1, none⟩) gt _)).alloc _)
              have hT0 : w1.heap.size ≤ w5.heap.size := by have := HU5.out.size; have := hu.out.size; have := hzz.out.lt; exact Nat.le_trans HT0.out HU5.out.size
              have WB : Hid (Blk (((((w5.setCell ⟨wr.heap.size, 0, none⟩ (.slice A5 xs'.length c5)).setCell ⟨wr.heap.size, 1, none⟩ (.slice M5 ms'.length d5)).setCell ⟨w.heap.size + 1, 0, none⟩ (.slice A5 xs'.length c5)).setCell ⟨w.heap.size + 1, 1, none⟩ (.slice M5 ms'.length d5)).alloc (.cells #[.int .i64 x.1, .int .i64 x.2] 58)) (w5.heap.size) 58 #[.int .i64 x.1, .int .i64 x.2]) := Lib.hid (Blk.newN _ (by simp))
              have tl : Hid (t ≤ 1000) := Lib.hid (by have := HL1.out.2.2; rw [HLN.out.2.2] at this; exact this)
              go_wp2_with (at_builtin; go_loud (refine wpList_append_lies _ rfl _ _ 54 rfl (w1.heap.size) 58 i0 (.agg #[.int .i64 0, .int .i64 0]) 2 16 Try.underlying54 hj hz0 hz1 hz2 rfl (by decide) (.slice T t tc) t (prs tk) rfl OA.out ⟨w5.heap.size, 0, none⟩ 1 1 [.int .i64 x.1, .int .i64 x.2] rfl rfl WB.out.news ?c5 (by omega) ?c7 ?c8 ?c9 (w5.heap.size + 1) (by simp) ?_); (case c5 => intro u hu; simp at hu; rcases hu with rfl | rfl <;> rfl); (case c7 => have := tl.out; unfold maxLen; omega); (case c8 => have := tl.out; omega); (case c9 => simp; omega); intro gg2 cp w6 hown6 hgrow hat hlt6; have hu6 := Upd.of_grown hgrow; have hs6 : w5.heap.size ≤ w6.heap.size := (by have := hu6.size; simp at this; omega); have OB : Hid (w6.ownsRow (w1.heap.size) 58 2 (.slice (some ⟨gg2, 0, none⟩) (t + 1) cp) (t + 1) (prs (tk ++ [x]))) := Lib.hid (by rw [prs_app]; exact hown6); have UB : Hid (Upd (fun _ => False) w w6) := Lib.hid (UA.out.trans hu6 (fun i h => .inr (Nat.le_trans (Nat.le_of_lt (Nat.lt_trans gg gt)) (own_ge OA.out h)))); have BB6 := Lib.hid (BA.out.upd hu6 (own_ne OA.out gt)); have ZB := Lib.hid (ZA.out.upd hu6 (own_ne OA.out (Nat.lt_trans gg gt))); have AB := Lib.hid (AA.out.upd hu6 vA.out); have MB := Lib.hid (MA.out.upd hu6 vM.out); have wA : Hid (SepV (.slice (some ⟨gg2, 0, none⟩) (t + 1) cp) A5) := Lib.hid (SepV.row vA.out rfl hat (fun b o e => by have := AA.out.ltn LE.out.1 b o e; simpa using this)); have wM : Hid (SepV (.slice (some ⟨gg2, 0, none⟩) (t + 1) cp) M5) := Lib.hid (SepV.row vM.out rfl hat (fun b o e => by have := MA.out.ltp LE.out.2.2.1 b o e; simpa using this)); clear hown6 hgrow hat hu6)
              go_roundw
              case rel => exact ⟨j + 1, A5, c5, M5, d5, some ⟨gg2, 0, none⟩, cp, xs'.length, ms'.length, t + 1, xs', ms', tk ++ [x], by omega, by omega, by omega, Nat.le_trans HT0.out (Nat.le_trans HU5.out.size hs6), rfl, by go_num, Lib.hid ⟨rfl, rfl, by simp [HLN.out.2.2]⟩, LE, Lib.hid (by rw [NX.out, HE.out]), OB, BB6, ZB, AB, MB, Lib.hid ⟨tA.out, tM.out, uA.out, uM.out⟩, Lib.hid ⟨wA.out, wM.out⟩, UB⟩
              case measure => simp [intOf]; omega
        · have HB := Lib.hid (bfold_end (most := most) (s := ([v.2], [(v.1, 0)], [v])) (vs := vs) hj1 (.inr (by omega)))
          have cb := hbb.out.cell
          have cz := hzz.out.cell
          have fz := hzz.out.frz
          have lz := hzz.out.lt
          go_wp2
          refine bodyPost_ret (v := .tuple #[.agg #[.slice A n c, .slice M m d], .slice T t tc]) (by simp [results, Try.results23, go_sem, cz, cb, lz]) rfl ?_
          have HR : Hid (ball most (v :: vs) = (xs, ms, tk)) := Lib.hid (HB.out.symm.trans hbf.out)
          obtain ⟨ln1, ln2, ln3⟩ := hlen.out
          obtain ⟨T2, tc2, e, hts, htb⟩ := Sl.of_own hown.out
          injection e with e1 e2 e3
          subst e1
          subst e3
          unfold AllPost
          rw [HR.out]
          refine ⟨A, c, M, d, T, tc, n, m, t, rfl, (ha.out.farS (p := ⟨w.heap.size, 0, none⟩) hsep.out.2.2.1 _).farS (p := ⟨w.heap.size, 1, none⟩) hsep.out.2.2.1 _, (hm2.out.farS (p := ⟨w.heap.size, 0, none⟩) hsep.out.2.2.2 _).farS (p := ⟨w.heap.size, 1, none⟩) hsep.out.2.2.2 _, (hts.farS (p := ⟨w.heap.size, 0, none⟩) (fun b o e => Nat.ne_of_gt (Nat.lt_of_lt_of_le (Nat.lt_trans gg gt) (htb b o e))) _).farS (p := ⟨w.heap.size, 1, none⟩) (fun b o e => Nat.ne_of_gt (Nat.lt_of_lt_of_le (Nat.lt_trans gg gt) (htb b o e))) _, ln1, ln2, ln3, ?_⟩
          exact ((hu.out.set (p := ⟨w.heap.size, 0, none⟩) (.inr (Nat.le_refl _)) _).set (p := ⟨w.heap.size, 1, none⟩) (.inr (Nat.le_refl _)) _).below0
      · have HB := Lib.hid (bfold_end (most := most) (s := ([v.2], [(v.1, 0)], [v])) (vs := vs) (j := j) hj1 (.inl ⟨by have := HL.out; omega, hj3⟩))
        have cb := hbb.out.cell
        have cz := hzz.out.cell
        have fz := hzz.out.frz
        have lz := hzz.out.lt
        go_wp2
        refine bodyPost_ret (v := .tuple #[.agg #[.slice A n c, .slice M m d], .slice T t tc]) (by simp [results, Try.results23, go_sem, cz, cb, lz]) rfl ?_
        have HR : Hid (ball most (v :: vs) = (xs, ms, tk)) := Lib.hid (HB.out.symm.trans hbf.out)
        obtain ⟨ln1, ln2, ln3⟩ := hlen.out
        obtain ⟨T2, tc2, e, hts, htb⟩ := Sl.of_own hown.out
        injection e with e1 e2 e3
        subst e1
        subst e3
        unfold AllPost
        rw [HR.out]
        refine ⟨A, c, M, d, T, tc, n, m, t, rfl, (ha.out.farS (p := ⟨w.heap.size, 0, none⟩) hsep.out.2.2.1 _).farS (p := ⟨w.heap.size, 1, none⟩) hsep.out.2.2.1 _, (hm2.out.farS (p := ⟨w.heap.size, 0, none⟩) hsep.out.2.2.2 _).farS (p := ⟨w.heap.size, 1, none⟩) hsep.out.2.2.2 _, (hts.farS (p := ⟨w.heap.size, 0, none⟩) (fun b o e => Nat.ne_of_gt (Nat.lt_of_lt_of_le (Nat.lt_trans gg gt) (htb b o e))) _).farS (p := ⟨w.heap.size, 1, none⟩) (fun b o e => Nat.ne_of_gt (Nat.lt_of_lt_of_le (Nat.lt_trans gg gt) (htb b o e))) _, ln1, ln2, ln3, ?_⟩
        exact ((hu.out.set (p := ⟨w.heap.size, 0, none⟩) (.inr (Nat.le_refl _)) _).set (p := ⟨w.heap.size, 1, none⟩) (.inr (Nat.le_refl _)) _).below0


/-- The walk of all. -/
theorem all_any (L : Option Addr) (len cap : Nat) (l : List (Int × Int)) (hl : l.length = len) (hm : len ≤ 9223372036854775807) (most : Int) (w : World) (hs : Sl w L len cap (prs l)) :
    Calls Try.prog 23 #[.slice L len cap, .int .i64 most] w (AllPost (ball most l) w) := by
  cases l with
  | nil => subst hl; exact all_nil L cap most w
  | cons v vs => exact all_cons L len cap v vs hl hm most w hs
/-- What holds of all. -/
theorem bfold_inv {most : Int} {P : BS → Prop} (hstep : ∀ s x, P s → P (bstep most s x)) : ∀ (s : BS) (vs : List (Int × Int)), P s → P (bfold most s vs)
  | s, [], h => h
  | s, v :: vs, h => bfold_inv hstep (bstep most s v) vs (hstep s v h)
theorem bstep_cases (most : Int) (s : BS) (x : Int × Int) : bstep most s x = s ∨ (idx s.1 x.2 < s.1.length ∧ bstep most s x = (s.1, s.2.1 ++ [(x.1, (idx s.1 x.2 : Int))], s.2.2 ++ [x])) ∨ (¬ idx s.1 x.2 < s.1.length ∧ ¬ most ≤ (s.1.length : Int) ∧ bstep most s x = (s.1 ++ [x.2], s.2.1 ++ [(x.1, (s.1.length : Int))], s.2.2 ++ [x])) := by
  obtain ⟨xs, ms, tk⟩ := s
  by_cases c1 : idx xs x.2 < xs.length
  · exact .inr (.inl ⟨c1, bstep_yes (by unfold badd; rw [if_pos c1])⟩)
  · by_cases c2 : most ≤ (xs.length : Int)
    · exact .inl (bstep_no (by unfold badd; rw [if_neg c1, if_pos c2]))
    · exact .inr (.inr ⟨c1, c2, bstep_yes (by unfold badd; rw [if_neg c1, if_neg c2])⟩)
end Go.Proofs.Ytdfnhbhcgkdplaa
