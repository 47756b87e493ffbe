/- BatchTells. -/
import Derived.Test.YtdfnhbhcgkdplaaRa
import Derived.Test.YtdfnhbhcgkdplaaRs
import Derived.Test.YtdfnhbhcgkdplaaRf
import Derived.Test.YtdfnhbhcgkdplaaIv2
import Derived.Test.YtdfnhbhcgkdplaaMo
import Derived.Test.YtdfnhbhcgkdplaaAw
import Derived.Test.YtdfnhbhcgkdplaaBs
import Derived.Deep.RegionHeld3
import Derived.Deep.DrawnRows
namespace Go.Proofs.Ytdfnhbhcgkdplaa
open Go.RowKit
set_option linter.unusedVariables false
set_option linter.unusedSimpArgs false

/-- A slice lies in an old block, or in one that is not of type t. -/
def NB (w : World) (B : Nat) (t : TypeId) (A : Option Addr) (cs : List Value) : Prop := cs = [] ∨ ∀ b o, A = some ⟨b, o, none⟩ → b < B ∨ (b < w.heap.size ∧ ∀ cs', ¬ Blk w b t cs')
theorem NB.upd {w w' : World} {B : Nat} {t : TypeId} {A : Option Addr} {cs : List Value} (h : NB w B t A cs) (hu : Upd (fun _ => False) w w') : NB w' B t A cs :=
  h.imp (fun x => x) fun h b o e => (h b o e).imp (fun x => x) fun ⟨h1, h2⟩ => ⟨Nat.lt_of_lt_of_le h1 hu.size, fun cs' hb => h2 cs' ((hu.block b h1 (fun h => h)).symm.trans hb)⟩
theorem NB.own {w : World} {B ob : Nat} {e t : TypeId} {sz n c : Nat} {A : Option Addr} {cs : List Value} (h : w.ownsRow ob e sz (.slice A n c) n cs) (hne : e ≠ t) : NB w B t A cs := by
  refine .inr fun b o hA => .inr ?_
  subst hA
  have h3 : (Value.slice (some ⟨b, o, none⟩) n c).ownBlock = some b := by
    rcases h.2 with ⟨he, _⟩ | ⟨g, cap, cur, he, _⟩
    · cases he
    · injection he with h1
      injection h1 with h1
      injection h1 with e1 e2
      subst e1 e2
      rfl
  exact ⟨own_lt h h3, fun cs' hb => own_sep h hb hne h3⟩
theorem NB.old {w w0 : World} {B : Nat} {t : TypeId} {A : Option Addr} {n c : Nat} {cs : List Value} (h : Sl w0 A n c cs) (hB : w0.heap.size ≤ B) : NB w B t A cs := by
  rcases h.at_ with he | ⟨b, o, hA, hlt, _⟩
  · exact .inl he
  · refine .inr fun b' o' e => .inl ?_
    rw [hA] at e
    injection e with e
    injection e with e1 e2
    omega
theorem Sl.upd_nb {w w' : World} {B g : Nat} {t : TypeId} {A : Option Addr} {n c : Nat} {cs : List Value} {x : Array Value} (h : Sl w A n c cs) (hn : NB w B t A cs) (hb : Blk w g t x) (hg : B ≤ g) (hu : Upd (At g) w w') : Sl w' A n c cs := by
  refine ⟨h.le, h.cm, h.nil, ?_⟩
  rcases h.at_ with he | ⟨b, o, hA, hlt, hc⟩
  · exact .inl he
  · rcases hn with he | hn
    · exact .inl he
    · refine .inr ⟨b, o, hA, Nat.lt_of_lt_of_le hlt hu.size, fun j u hj => ?_⟩
      rw [hu.cellq (p := ⟨b, o + j, none⟩) hlt (fun hbg => ?_)]
      · exact hc j u hj
      · have hbg : b = g := hbg
        subst hbg
        rcases hn b o hA with h1 | h1
        · omega
        · exact h1.2 _ hb
theorem few_to {A M : Option Addr} {n c m d : Nat} {b : Bool} (hb : (decide (n ≤ 50) && decide (m ≤ 50)) = b) (hn : n ≤ 9223372036854775807) (hm : m ≤ 9223372036854775807) (w : World) :
    Calls Try.prog 10 #[.agg #[.slice A n c, .slice M m d]] w fun e w' => e = .returned (.bool b) ∧ Below w.heap.size w w' := by
  subst hb
  exact few_any A M n c m d hn hm w
/-- What Split hands back, by a word on whether it splits. -/
def sok (n : Nat) (ms : List (Int × Int)) (vals : List Int) : Bool := decide (vals.length = n) && (psplit vals ms).isSome
def sps (n : Nat) (ms : List (Int × Int)) (vals : List Int) : List (Int × Int) := if sok n ms vals = true then (psplit vals ms).getD [] else []
theorem sok_yes {n : Nat} {ms l : List (Int × Int)} {vals : List Int} (h1 : vals.length = n) (h2 : psplit vals ms = some l) : sok n ms vals = true ∧ sps n ms vals = l := by
  have : sok n ms vals = true := by simp [sok, h1, h2]
  exact ⟨this, by unfold sps; rw [if_pos this, h2]; rfl⟩
theorem sok_no {n : Nat} {ms : List (Int × Int)} {vals : List Int} (h : vals.length ≠ n ∨ psplit vals ms = none) : sok n ms vals = false ∧ sps n ms vals = [] := by
  have : sok n ms vals = false := by
    rcases h with h | h
    · simp [sok, h]
    · simp [sok, h]
  exact ⟨this, by unfold sps; rw [if_neg (by simp [this])]⟩
theorem psplit_at2 {vals : List Int} : ∀ {ms l : List (Int × Int)}, psplit vals ms = some l → ∀ (i : Nat) m, ms[i]? = some m → ∃ x, l[i]? = some (m.1, x)
  | [], l, h, i, m, hm => by simp at hm
  | p :: ms, l, h, i, m, hm => by
    unfold psplit at h
    split at h
    · cases h
    · rename_i x hx
      obtain ⟨l', h', rfl⟩ := Option.map_eq_some_iff.1 h
      cases i with
      | zero => simp at hm; subst hm; exact ⟨x, rfl⟩
      | succ i =>
        obtain ⟨y, h2⟩ := psplit_at2 h' i m (by simpa using hm)
        exact ⟨y, by simpa using h2⟩
theorem sps_at {n : Nat} {ms : List (Int × Int)} {vals : List Int} {i : Nat} {x : Int × Int} (h : (sps n ms vals)[i]? = some x) : ∃ m, ms[i]? = some m ∧ x.1 = m.1 := by
  unfold sps at h
  split at h
  · rename_i hs
    unfold sok at hs
    simp only [Bool.and_eq_true] at hs
    obtain ⟨l, hl⟩ := Option.isSome_iff_exists.1 hs.2
    rw [hl] at h
    simp only [Option.getD_some] at h
    have hlt := (List.getElem?_eq_some_iff.1 h).1
    rw [psplit_len hl] at hlt
    obtain ⟨y, hy⟩ := psplit_at2 hl i _ (List.getElem?_eq_getElem hlt)
    rw [h] at hy
    injection hy with hy
    exact ⟨_, List.getElem?_eq_getElem hlt, by rw [hy]⟩
  · simp at h
theorem bsplit_b {A M V : Option Addr} {c d q n m v l : Nat} {ms ps : List (Int × Int)} {vals : List Int} {b : Bool} (hb : sok n ms vals = b) (hp : sps n ms vals = ps) (hl : ps.length = l) (hm : ms.length = m) (hv : vals.length = v) (hn : n ≤ 9223372036854775807) (hml : m ≤ 1000) (w : World) (hsm : Sl w M m d (prs ms)) (hsv : Sl w V v q (nums vals)) :
    Calls Try.prog 14 #[.agg #[.slice A n c, .slice M m d], .slice V v q] w fun e w' => ∃ A' c', e = .returned (.tuple #[.slice A' l c', .bool b]) ∧ Sl w' A' l c' (prs ps) ∧ Below w.heap.size w w' := by
  subst hm hv
  refine (split_any A M V c d q n ms vals hn hml w hsm hsv).mono ?_
  rintro e w' (⟨l', A', c', h1, h2, rfl, hs, hd⟩ | ⟨h1, rfl, hd⟩)
  · obtain ⟨e1, e2⟩ := sok_yes h1 h2
    rw [e1] at hb
    rw [e2] at hp
    subst hb hp hl
    exact ⟨A', c', rfl, hs, hd⟩
  · obtain ⟨e1, e2⟩ := sok_no h1
    rw [e1] at hb
    rw [e2] at hp
    subst hb hp hl
    exact ⟨none, 0, rfl, Sl.zero _, hd⟩
theorem rsplit_b {A M V : Option Addr} {c d q n m v l : Nat} {ms ps : List (Int × Int)} {vals : List Int} {b : Bool} (hb : sok n ms vals = b) (hp : sps n ms vals = ps) (hl : ps.length = l) (hm : ms.length = m) (hv : vals.length = v) (hn : n ≤ 9223372036854775807) (hml : m ≤ 1000) (hvl : v ≤ 1000) (w : World) (hsm : Sl w M m d (prs ms)) (hsv : Sl w V v q (nums vals)) :
    Calls Try.prog 15 #[.agg #[.slice A n c, .slice M m d], .slice V v q] w fun e w' => ∃ A' c', e = .returned (.tuple #[.slice A' l c', .bool b]) ∧ Sl w' A' l c' (nums (ps.map Prod.snd)) ∧ Below w.heap.size w w' := by
  refine (rsplit_any A M V c d q n m v ms vals hm hv hn hml hvl w hsm hsv).mono ?_
  rintro e w' (⟨l', A', c', h1, h2, rfl, hs, hd⟩ | ⟨h1, rfl, hd⟩)
  · obtain ⟨e1, e2⟩ := sok_yes h1 h2
    rw [e1] at hb
    rw [e2] at hp
    subst hb hp hl
    exact ⟨A', c', rfl, hs, hd⟩
  · obtain ⟨e1, e2⟩ := sok_no h1
    rw [e1] at hb
    rw [e2] at hp
    subst hb hp hl
    exact ⟨none, 0, rfl, Sl.zero _, hd⟩
theorem same_to {A M A' M' : Option Addr} {n c m d c' d' : Nat} {xs : List Int} {ms : List (Int × Int)} (hn : xs.length = n) (hm : ms.length = m) (hn1 : n ≤ 1000) (hm1 : m ≤ 1000) (w : World) (ha : Sl w A n c (nums xs)) (hb : Sl w M m d (prs ms)) (ha' : Sl w A' n c' (nums xs)) (hb' : Sl w M' m d' (prs ms)) :
    Calls Try.prog 17 #[.agg #[.slice A n c, .slice M m d], .agg #[.slice A' n c', .slice M' m d']] w fun e w' => e = .returned (.bool true) ∧ Below w.heap.size w w' := same_any A M A' M' n c m d c' d' xs ms hn hm hn1 hm1 w ha hb ha' hb'
theorem real_to3 {A M : Option Addr} {c d n m : Nat} {ms : List (Int × Int)} (hm : ms.length = m) (hml : m ≤ 1000) (w : World) (hs : Sl w M m d (prs ms)) :
    Calls Try.prog 18 #[.agg #[.slice A n c, .slice M m d]] w fun e w' => ∃ M' d', e = .returned (.agg #[.slice A n c, .slice M' m d']) ∧ Sl w' M' m d' (prs ms) ∧ Below w.heap.size w w' := by
  subst hm
  exact real_any A M c d n ms hml w hs
theorem rlead_to {A M : Option Addr} {n c d m : Nat} {ms : List (Int × Int)} {x : Int} (hm : ms.length = m) (hx : lead ms = x) (w : World) (hs : Sl w M m d (prs ms)) :
    Calls Try.prog 21 #[.agg #[.slice A n c, .slice M m d]] w fun e w' => e = .returned (.int .i64 x) ∧ Below w.heap.size w w' := by
  subst hx
  exact rlead_any A M n c d m ms hm w hs
theorem agg_three {c : Array Value} (h : Oks [.int .i64, .int .i64, .int .i64] c.toList) : ∃ p q r, c = #[.int .i64 p, .int .i64 q, .int .i64 r] := by
  obtain ⟨c⟩ := c
  obtain ⟨v0, r0, e0, ⟨x, rfl, _⟩, h1⟩ := h.cons
  obtain ⟨v1, r1, e1, ⟨y, rfl, _⟩, h2⟩ := h1.cons
  obtain ⟨v2, r2, e2, ⟨z, rfl, _⟩, h3⟩ := h2.cons
  have e3 := h3.nil
  simp only at e0
  subst e0 e1 e2 e3
  exact ⟨x, y, z, rfl⟩
/-- What a batch with one more is. -/
def FS (w : World) (B n' m' : Nat) (xs' : List Int) (ms' : List (Int × Int)) (A2 M2 : Option Addr) (c2 d2 : Nat) : Prop :=
  Sl w A2 n' c2 (nums xs') ∧ Sl w M2 m' d2 (prs ms') ∧ NB w B 31 A2 (nums xs') ∧ NB w B 31 M2 (prs ms')
theorem FS.upd {w w' : World} {B n' m' : Nat} {xs' : List Int} {ms' : List (Int × Int)} {A2 M2 : Option Addr} {c2 d2 : Nat} (h : FS w B n' m' xs' ms' A2 M2 c2 d2) (hu : Upd (fun _ => False) w w') : FS w' B n' m' xs' ms' A2 M2 c2 d2 :=
  ⟨h.1.upd0 hu, h.2.1.upd0 hu, h.2.2.1.upd hu, h.2.2.2.upd hu⟩
def btΦ (G base : Nat) (A : Option Addr) (n c m : Nat) (M : Option Addr) (d : Nat) (p r s : Int) (ok : Bool) (ms : List (Int × Int)) (n' m' : Nat) (xs' : List Int) (ms' : List (Int × Int)) : Bool → Nat → Value → World → Prop
  | false, 0, v, _ => v = .agg #[.slice A n c, .slice M m d]
  | false, 1, v, w => ∃ M' d', v = .agg #[.slice A n c, .slice M' m d'] ∧ ∃ ob, w.ownsRow ob 64 2 (.slice M' m d') m (prs ms)
  | false, 2, v, _ => v = .pointer (some ⟨G + 1, 0, none⟩)
  | false, 3, v, _ => v = .int .i64 p
  | false, 4, v, _ => v = .pointer (some ⟨G + 1, 1, none⟩)
  | false, 5, v, _ => v = .int .i64 r
  | false, 6, v, _ => v = .pointer (some ⟨G + 1, 2, none⟩)
  | false, 7, v, _ => v = .int .i64 s
  | false, 8, v, w => ∃ A2 c2 M2 d2, v = .tuple #[.agg #[.slice A2 n' c2, .slice M2 m' d2], .bool ok] ∧ FS w base n' m' xs' ms' A2 M2 c2 d2
  | false, 9, v, w => ∃ A2 c2 M2 d2, v = .tuple #[.agg #[.slice A2 n' c2, .slice M2 m' d2], .bool ok] ∧ FS w base n' m' xs' ms' A2 M2 c2 d2
  | true, 9, v, _ => ∃ A2 c2 M2 d2, v = .tuple #[.agg #[.slice A2 n' c2, .slice M2 m' d2], .bool ok]
  | false, 10, v, w => ∃ A2 c2 M2 d2, v = .agg #[.slice A2 n' c2, .slice M2 m' d2] ∧ FS w base n' m' xs' ms' A2 M2 c2 d2
  | _, 11, v, _ => v = .bool ok
  | false, 12, v, w => ∃ g, v = .pointer (some ⟨g, 0, none⟩) ∧ base ≤ g ∧ Blk w g 31 #[.slice none 0 0, .slice none 0 0]
  | true, 12, v, w => ∃ g A2 c2 M2 d2, v = .pointer (some ⟨g, 0, none⟩) ∧ base ≤ g ∧ Blk w g 31 #[.slice A2 n' c2, .slice M2 m' d2] ∧ Sl w A2 n' c2 (nums xs') ∧ Sl w M2 m' d2 (prs ms')
  | _, _, _, _ => True
theorem btΦ_stab {G base : Nat} {A : Option Addr} {n c m : Nat} {M : Option Addr} {d : Nat} {p r s : Int} {ok : Bool} {ms : List (Int × Int)} {n' m' : Nat} {xs' : List Int} {ms' : List (Int × Int)} : ∀ lm j v w w', btΦ G base A n c m M d p r s ok ms n' m' xs' ms' lm j v w → Upd (fun _ => False) w w' → btΦ G base A n c m M d p r s ok ms n' m' xs' ms' lm j v w' := by
  intro lm j v w w' h hu
  rcases j with _ | _ | _ | _ | _ | _ | _ | _ | _ | _ | _ | _ | _ | j <;> cases lm
  all_goals first
    | exact h
    | (obtain ⟨M', d', h1, ob, h2⟩ := h; exact ⟨M', d', h1, ob, own_upd0 h2 hu⟩)
    | (obtain ⟨A2, c2, M2, d2, h1, h2⟩ := h; exact ⟨A2, c2, M2, d2, h1, h2.upd hu⟩)
    | (obtain ⟨g, h1, h2, h3⟩ := h; exact ⟨g, h1, h2, h3.upd hu (fun h => h)⟩)
    | (obtain ⟨g, A2, c2, M2, d2, h1, h2, h3, h4, h5⟩ := h; exact ⟨g, A2, c2, M2, d2, h1, h2, h3.upd hu (fun h => h), h4.upd0 hu, h5.upd0 hu⟩)
    | trivial
set_option maxHeartbeats 20000000 in
set_option maxRecDepth 100000 in
theorem btells_any (A M V : Option Addr) (n c m d q v : Nat) (p r s : Int) (xs : List Int) (ms : List (Int × Int)) (vals : List Int) (hn : xs.length = n) (hm : ms.length = m) (hv : vals.length = v) (hn1 : n ≤ 9223372036854775807) (hm1 : m ≤ 9223372036854775807) (hv1 : v ≤ 9223372036854775807) (w : World) (ha : Sl w A n c (nums xs)) (hs : Sl w M m d (prs ms)) (hsv : Sl w V v q (nums vals)) :
    Calls Try.prog 3 #[.agg #[.slice A n c, .slice M m d], .agg #[.int .i64 p, .int .i64 r, .int .i64 s], .slice V v q] w fun e w' => e = .returned (.bool true) ∧ Below w.heap.size w w' := by
  have HN := Lib.hid hn
  have HM := Lib.hid hm
  have HV := Lib.hid hv
  have HAw := Lib.hid ha
  have HA0 := Lib.hid ((ha.alloc (.cells #[.slice A n c, .slice M m d] 25)).alloc (.cells #[.int .i64 p, .int .i64 r, .int .i64 s] 26))
  have HS0 := Lib.hid ((hs.alloc (.cells #[.slice A n c, .slice M m d] 25)).alloc (.cells #[.int .i64 p, .int .i64 r, .int .i64 s] 26))
  have HSV0 := Lib.hid ((hsv.alloc (.cells #[.slice A n c, .slice M m d] 25)).alloc (.cells #[.int .i64 p, .int .i64 r, .int .i64 s] 26))
  have BC0 := Lib.hid ((Blk.new w #[.slice A n c, .slice M m d] 25).alloc (.cells #[.int .i64 p, .int .i64 r, .int .i64 s] 26))
  have AR0 := Lib.hid (Blk.new1 w (.cells #[.slice A n c, .slice M m d] 25) #[.int .i64 p, .int .i64 r, .int .i64 s] 26)
  have U0 : Hid (Upd (fun _ => False) w _) := Lib.hid (((Upd.refl (fun _ => False) w).alloc (.cells #[.slice A n c, .slice M m d] 25)).alloc (.cells #[.int .i64 p, .int .i64 r, .int .i64 s] 26))
  clear ha hs hn hm hsv hv
  go_enter Try.func3, Try.ntmps3
  go_wp2_with fail
  refine (awake_any _).mono ?_
  rintro e w1 ⟨rfl, hd⟩
  have hu := Upd.of_below hd (fun _ => False)
  have BC1 := Lib.hid (BC0.out.upd hu (fun h => h))
  have AR1 := Lib.hid (AR0.out.upd hu (fun h => h))
  have HA1 := Lib.hid (HA0.out.upd0 hu)
  have HS1 := Lib.hid (HS0.out.upd0 hu)
  have HSV1 := Lib.hid (HSV0.out.upd0 hu)
  have U1 := Lib.hid (U0.out.trans hu (fun _ h => h.elim))
  clear hd hu BC0 AR0 HA0 HS0 HSV0 U0
  have BCc0 : w1.cell? ⟨w.heap.size, 0, none⟩ = some (.slice A n c) := BC1.out.cell 0
  have BCc1 : w1.cell? ⟨w.heap.size, 1, none⟩ = some (.slice M m d) := BC1.out.cell 1
  have BCl : w.heap.size < w1.heap.size := BC1.out.lt
  have ARc0 : w1.cell? ⟨w.heap.size + 1, 0, none⟩ = some (.int .i64 p) := AR1.out.cell 0
  have ARc1 : w1.cell? ⟨w.heap.size + 1, 1, none⟩ = some (.int .i64 r) := AR1.out.cell 1
  have ARc2 : w1.cell? ⟨w.heap.size + 1, 2, none⟩ = some (.int .i64 s) := AR1.out.cell 2
  have ARl : w.heap.size + 1 < w1.heap.size := AR1.out.lt
  go_wp2_with fail
  by_cases hf : n ≤ 50 ∧ m ≤ 50
  · obtain ⟨hf1, hf2⟩ := id hf
    by_cases h60 : v ≤ 60
    · have g60 : ¬ (v : Int) > 60 := by omega
      obtain ⟨xs', ms', ok, hbd⟩ : ∃ a b c, badd xs ms p r s = (a, b, c) := ⟨_, _, _, rfl⟩
      obtain ⟨n', hnn⟩ : ∃ k, xs'.length = k := ⟨_, rfl⟩
      obtain ⟨m', hmm⟩ : ∃ k, ms'.length = k := ⟨_, rfl⟩
      have hn2 : n' ≤ 51 := by
        have := badd_len1 xs ms p r s
        rw [hbd, hnn, HN.out] at this
        omega
      have hm2 : m' ≤ 51 := by
        have := badd_len2 xs ms p r s
        rw [hbd, hmm, HM.out] at this
        omega
      have HBD := Lib.hid hbd
      have HNN := Lib.hid hnn
      have HMM := Lib.hid hmm
      clear hbd hnn hmm
      obtain ⟨sb, hsb⟩ : ∃ b, sok n ms vals = b := ⟨_, rfl⟩
      obtain ⟨ps, hps⟩ : ∃ l, sps n ms vals = l := ⟨_, rfl⟩
      obtain ⟨pl, hpl⟩ : ∃ k, ps.length = k := ⟨_, rfl⟩
      have HSB := Lib.hid hsb
      have HPS := Lib.hid hps
      have HPL := Lib.hid hpl
      clear hsb hps hpl
      clear BCc0 BCc1 BCl ARc0 ARc1 ARc2 ARl
      refine (few_to (b := true) (by simp [hf.1, hf.2]) hn1 hm1 _).mono ?_
      rintro e w2 ⟨rfl, hd⟩
      have hu := Upd.of_below hd (fun _ => False)
      have BC2 := Lib.hid (BC1.out.upd hu (fun h => h))
      have AR2 := Lib.hid (AR1.out.upd hu (fun h => h))
      have HA2 := Lib.hid (HA1.out.upd0 hu)
      have HS2 := Lib.hid (HS1.out.upd0 hu)
      have HSV2 := Lib.hid (HSV1.out.upd0 hu)
      have U2 := Lib.hid (U1.out.trans hu (fun _ h => h.elim))
      clear hd hu BC1 AR1 HA1 HS1 HSV1 U1
      have BCc0 : w2.cell? ⟨w.heap.size, 0, none⟩ = some (.slice A n c) := BC2.out.cell 0
      have BCc1 : w2.cell? ⟨w.heap.size, 1, none⟩ = some (.slice M m d) := BC2.out.cell 1
      have BCl : w.heap.size < w2.heap.size := BC2.out.lt
      have ARc0 : w2.cell? ⟨w.heap.size + 1, 0, none⟩ = some (.int .i64 p) := AR2.out.cell 0
      have ARc1 : w2.cell? ⟨w.heap.size + 1, 1, none⟩ = some (.int .i64 r) := AR2.out.cell 1
      have ARc2 : w2.cell? ⟨w.heap.size + 1, 2, none⟩ = some (.int .i64 s) := AR2.out.cell 2
      have ARl : w.heap.size + 1 < w2.heap.size := AR2.out.lt
      go_wp2_with fail
      clear BCc0 BCc1 BCl ARc0 ARc1 ARc2 ARl
      refine wp_region_inv2 (by kernel_rfl) (by kernel_rfl) (btΦ w.heap.size w2.heap.size A n c m M d p r s ok ms n' m' xs' ms') btΦ_stab ?_ ?_ ?_
      · intro j o k ho hne hne2 hk a w' lm hF hM hD
        have hBB := (BC2.out.drew).upd hF.upd (fun h => h)
        have hAA := (AR2.out.drew).upd hF.upd (fun h => h)
        have b0 : w'.cell? ⟨w.heap.size, 0, none⟩ = some (.slice A n c) := hBB.cell 0
        have b1 : w'.cell? ⟨w.heap.size, 1, none⟩ = some (.slice M m d) := hBB.cell 1
        have a0_ : w'.cell? ⟨w.heap.size + 1, 0, none⟩ = some (.int .i64 p) := hAA.cell 0
        have a1_ : w'.cell? ⟨w.heap.size + 1, 1, none⟩ = some (.int .i64 r) := hAA.cell 1
        have a2_ : w'.cell? ⟨w.heap.size + 1, 2, none⟩ = some (.int .i64 s) := hAA.cell 2
        have e8 : a.tmps.getD 3 undef = .pointer (some ⟨w.heap.size, 0, none⟩) := hF.keep 3 (by kernel_rfl)
        have e9 : a.tmps.getD 4 undef = .pointer (some ⟨w.heap.size + 1, 0, none⟩) := hF.keep 4 (by kernel_rfl)
        have hbs : w2.heap.size ≤ w'.heap.size := by have := hF.upd.size; simpa using this
        have hws : w.heap.size ≤ w2.heap.size := U2.out.size
        have hj7 : j < 13 := by
          have := (Array.getElem?_eq_some_iff.1 ho).1
          simp at this hne hne2
          omega
        rcases j with _ | _ | _ | _ | _ | _ | _ | _ | _ | _ | _ | _ | _ | j
        all_goals (try (exfalso; omega))
        all_goals simp at ho
        all_goals subst ho
        all_goals simp at hk
        all_goals (try subst hk)
        · skip
          have elm : lm = false := by
            cases lm
            · rfl
            · exact absurd rfl (hM rfl _ rfl ⟨0, .phase⟩ (by simp) rfl)
          subst elm
          unfold Oper.wp
          go_simp
          exact ⟨_, rfl, Upd.refl _ _, rfl⟩
        · skip
          have elm : lm = false := by
            cases lm
            · rfl
            · exact absurd rfl (hM rfl _ rfl ⟨1, .phase⟩ (by simp) rfl)
          subst elm
          have f0_ : a.tmps.getD 29 undef = .agg #[.slice A n c, .slice M m d] := hD ⟨0, .data⟩ (by simp) rfl _ _ rfl rfl
          have HSL := Lib.hid (HS2.out.drew.upd0 hF.upd)
          clear hD hM
          unfold Oper.wp
          go_simp
          refine (made_own A M n c m d ms HM.out (by omega) _ HSL.out).mono ?_
          rintro e w3_ ⟨M', d', rfl, ⟨ob, _, ho⟩, hd⟩
          exact ⟨_, rfl, Upd.of_below hd _, ⟨M', d', rfl, ob, ho⟩⟩
        · skip
          have elm : lm = false := by
            cases lm
            · rfl
            · exact absurd rfl (hM rfl _ rfl ⟨2, .phase⟩ (by simp) rfl)
          subst elm
          unfold Oper.wp
          go_simp
          exact ⟨_, rfl, Upd.refl _ _, rfl⟩
        · skip
          have elm : lm = false := by
            cases lm
            · rfl
            · exact absurd rfl (hM rfl _ rfl ⟨3, .phase⟩ (by simp) rfl)
          subst elm
          have f2_ : a.tmps.getD 31 undef = .pointer (some ⟨w.heap.size + 1, 0, none⟩) := hD ⟨2, .data⟩ (by simp) rfl _ _ rfl rfl
          unfold Oper.wp
          go_simp
          exact ⟨_, rfl, Upd.refl _ _, rfl⟩
        · skip
          have elm : lm = false := by
            cases lm
            · rfl
            · exact absurd rfl (hM rfl _ rfl ⟨4, .phase⟩ (by simp) rfl)
          subst elm
          unfold Oper.wp
          go_simp
          exact ⟨_, rfl, Upd.refl _ _, rfl⟩
        · skip
          have elm : lm = false := by
            cases lm
            · rfl
            · exact absurd rfl (hM rfl _ rfl ⟨5, .phase⟩ (by simp) rfl)
          subst elm
          have f4_ : a.tmps.getD 33 undef = .pointer (some ⟨w.heap.size + 1, 1, none⟩) := hD ⟨4, .data⟩ (by simp) rfl _ _ rfl rfl
          unfold Oper.wp
          go_simp
          exact ⟨_, rfl, Upd.refl _ _, rfl⟩
        · skip
          have elm : lm = false := by
            cases lm
            · rfl
            · exact absurd rfl (hM rfl _ rfl ⟨6, .phase⟩ (by simp) rfl)
          subst elm
          unfold Oper.wp
          go_simp
          exact ⟨_, rfl, Upd.refl _ _, rfl⟩
        · skip
          have elm : lm = false := by
            cases lm
            · rfl
            · exact absurd rfl (hM rfl _ rfl ⟨7, .phase⟩ (by simp) rfl)
          subst elm
          have f6_ : a.tmps.getD 35 undef = .pointer (some ⟨w.heap.size + 1, 2, none⟩) := hD ⟨6, .data⟩ (by simp) rfl _ _ rfl rfl
          unfold Oper.wp
          go_simp
          exact ⟨_, rfl, Upd.refl _ _, rfl⟩
        · skip
          have elm : lm = false := by
            cases lm
            · rfl
            · exact absurd rfl (hM rfl _ rfl ⟨8, .phase⟩ (by simp) rfl)
          subst elm
          obtain ⟨M', d', f1_, ob, ho⟩ : btΦ w.heap.size w2.heap.size A n c m M d p r s ok ms n' m' xs' ms' false 1 (a.tmps.getD 30 undef) w' := hD ⟨1, .data⟩ (by simp) rfl _ _ rfl rfl
          have f3_ : a.tmps.getD 32 undef = .int .i64 p := hD ⟨3, .data⟩ (by simp) rfl _ _ rfl rfl
          have f5_ : a.tmps.getD 34 undef = .int .i64 r := hD ⟨5, .data⟩ (by simp) rfl _ _ rfl rfl
          have f7_ : a.tmps.getD 36 undef = .int .i64 s := hD ⟨7, .data⟩ (by simp) rfl _ _ rfl rfl
          have HO := Lib.hid ho
          have HAL := Lib.hid (HA2.out.drew.upd0 hF.upd)
          have HML : Hid (Sl w' M' m d' (prs ms)) := Lib.hid (by
            obtain ⟨V2, vc2, e, hsv, _⟩ := Sl.of_own ho
            injection e with e1 e2 e3
            subst e1
            subst e3
            exact hsv)
          clear hD ho hM
          unfold Oper.wp
          go_simp
          refine (add_own (n' := n') (m' := m') HBD.out HN.out HM.out HNN.out HMM.out (by omega) (by omega) _ HAL.out HML.out).mono ?_
          rintro e w3_ ⟨A2, c2, M2, d2, rfl, hs1, hs2, ho12, hd⟩
          have hu3 := Upd.of_below hd (fun _ => False)
          refine ⟨_, rfl, Upd.of_below hd _, ⟨A2, c2, M2, d2, rfl, hs1, hs2, ?_, ?_⟩⟩
          · rcases ho12.1 with ⟨e1, _, e3⟩ | ⟨ob2, _, ho2⟩
            · rw [e1]
              by_cases hz : n = 0
              · exact .inl (List.eq_nil_of_length_eq_zero (by rw [nums_len, HNN.out, e3, hz]))
              · rcases NB.old (w := w3_) (B := w2.heap.size) (t := 31) HAw.out hws with h1 | h1
                · exact absurd (congrArg List.length h1) (by rw [nums_len, HN.out]; exact hz)
                · exact .inr h1
            · exact NB.own ho2 (by decide)
          · rcases ho12.2 with ⟨e1, e2, e3⟩ | ⟨ob2, _, ho2⟩
            · rw [e1]
              by_cases hz : m = 0
              · exact .inl (List.eq_nil_of_length_eq_zero (by rw [prs_len, HMM.out, e3, hz]))
              · rcases (NB.own (B := w2.heap.size) (t := 31) (own_upd0 HO.out hu3) (by decide)) with h1 | h1
                · exact absurd (congrArg List.length h1) (by rw [prs_len, HM.out]; intro h; simp at h; omega)
                · exact .inr h1
            · exact NB.own ho2 (by decide)
        · skip
          have elm : lm = false := by
            cases lm
            · rfl
            · exact absurd rfl (hM rfl _ rfl ⟨9, .phase⟩ (by simp) rfl)
          subst elm
          obtain ⟨A2, c2, M2, d2, f8_, hfs⟩ : btΦ w.heap.size w2.heap.size A n c m M d p r s ok ms n' m' xs' ms' false 8 (a.tmps.getD 37 undef) w' := hD ⟨8, .data⟩ (by simp) rfl _ _ rfl rfl
          unfold Oper.wp
          go_simp
          exact ⟨_, rfl, Upd.refl _ _, ⟨A2, c2, M2, d2, rfl, hfs⟩⟩
        · skip
          have elm : lm = false := by
            cases lm
            · rfl
            · exact absurd rfl (hM rfl _ rfl ⟨10, .phase⟩ (by simp) rfl)
          subst elm
          obtain ⟨A2, c2, M2, d2, f9_, hfs⟩ : btΦ w.heap.size w2.heap.size A n c m M d p r s ok ms n' m' xs' ms' false 9 (a.tmps.getD 28 undef) w' := hD ⟨9, .data⟩ (by simp) rfl _ _ rfl rfl
          unfold Oper.wp
          go_simp
          exact ⟨_, rfl, Upd.refl _ _, ⟨A2, c2, M2, d2, rfl, hfs⟩⟩
        · obtain ⟨A2, c2, M2, d2, f9_⟩ : ∃ A2 c2 M2 d2, a.tmps.getD 28 undef = .tuple #[.agg #[.slice A2 n' c2, .slice M2 m' d2], .bool ok] := by
            cases lm
            · obtain ⟨A2, c2, M2, d2, h1, _⟩ : btΦ w.heap.size w2.heap.size A n c m M d p r s ok ms n' m' xs' ms' false 9 (a.tmps.getD 28 undef) w' := hD ⟨9, .data⟩ (by simp) rfl _ _ rfl rfl
              exact ⟨A2, c2, M2, d2, h1⟩
            · exact (hD ⟨9, .data⟩ (by simp) rfl _ _ rfl rfl : btΦ w.heap.size w2.heap.size A n c m M d p r s ok ms n' m' xs' ms' true 9 (a.tmps.getD 28 undef) w')
          unfold Oper.wp
          go_simp
          cases lm
          · exact ⟨_, rfl, Upd.refl _ _, rfl⟩
          · exact ⟨_, rfl, Upd.refl _ _, rfl⟩
        · skip
          have elm : lm = false := by
            cases lm
            · rfl
            · exact absurd rfl (hM rfl _ rfl ⟨12, .phase⟩ (by simp) rfl)
          subst elm
          unfold Oper.wp
          go_simp
          exact ⟨_, rfl, (Upd.refl _ _).alloc _, ⟨w'.heap.size, rfl, hbs, Blk.new _ _ _⟩⟩
      · intro o ho a w' hF hD
        simp at ho
        subst ho
        obtain ⟨A2, c2, M2, d2, e5, hfs⟩ : btΦ w.heap.size w2.heap.size A n c m M d p r s ok ms n' m' xs' ms' false 10 (a.tmps.getD 38 undef) w' := hD ⟨10, .data⟩ (by simp) rfl _ _ rfl rfl
        obtain ⟨gx, e6, hg, hbg⟩ : btΦ w.heap.size w2.heap.size A n c m M d p r s ok ms n' m' xs' ms' false 12 (a.tmps.getD 8 undef) w' := hD ⟨12, .data⟩ (by simp) rfl _ _ rfl rfl
        have hfg := hbg.frz
        have hcg := hbg.cell
        have hlg := hbg.lt
        have HGB := Lib.hid hbg
        have OO := Lib.hid hfs
        have HF := Lib.hid hF
        have HG := Lib.hid hg
        clear hbg hfs hF hg hD
        have e6' := e6
        unfold Oper.wp
        go_simp
        refine ⟨(HF.out.upd.set (p := ⟨gx, 0, none⟩) (.inr HG.out) (.slice A2 n' c2)).set (p := ⟨gx, 1, none⟩) (.inr HG.out) (.slice M2 m' d2), ?_⟩
        intro j o' k hj hne hk h
        have hj11 : j < 14 := by
          have := (List.getElem?_eq_some_iff.1 hj).1
          simp at this hne
          omega
        rcases j with _ | _ | _ | _ | _ | _ | _ | _ | _ | _ | _ | _ | _ | _ | j
        all_goals (try (exfalso; omega))
        all_goals simp at hj
        all_goals subst hj
        all_goals simp at hk
        all_goals (try subst hk)
        all_goals skip
        all_goals first
          | trivial
          | exact h
          | (obtain ⟨A2, c2, M2, d2, h1, _⟩ := h; exact ⟨A2, c2, M2, d2, h1⟩)
          | exact ⟨gx, A2, c2, M2, d2, (by first | exact e6' | (rw [← Array.getD_eq_getD_getElem?]; exact e6')), HG.out, (HGB.out.set 0 (.slice A2 n' c2)).set 1 (.slice M2 m' d2), OO.out.1.upd_nb OO.out.2.2.1 HGB.out HG.out (((Upd.refl (At gx) w').put 0 (.slice A2 n' c2)).put 1 (.slice M2 m' d2)), OO.out.2.1.upd_nb OO.out.2.2.2 HGB.out HG.out (((Upd.refl (At gx) w').put 0 (.slice A2 n' c2)).put 1 (.slice M2 m' d2))⟩
      · intro o ho a w' hF hD
        have f9_ : a.tmps.getD 39 undef = .bool ok := hD 11 _ _ rfl (by simp) rfl
        obtain ⟨gf, A2, c2, M2, d2, e6, hg, hbg, hsa, hsl⟩ : btΦ w.heap.size w2.heap.size A n c m M d p r s ok ms n' m' xs' ms' true 12 (a.tmps.getD 8 undef) w' := hD 12 _ _ rfl (by simp) rfl
        have XF3 := Lib.hid hbg
        have QX3 := Lib.hid hsa
        have QY3 := Lib.hid hsl
        have HF := Lib.hid hF
        have HU := Lib.hid (((Upd.refl (fun _ => False) w2).drew).trans hF.upd (fun _ h => h.elim))
        clear hbg hF hsl hsa hD
        simp at ho
        subst ho
        unfold Oper.wp
        go_simp
        rename_i hK1
        refine hK1 _ _ ?_
        clear hK1
        rw [HF.out.act [false, false, false, false, false, false, false, false, true, true, false, false, false, false, false, false, false, false, false, false, false, false, false, false, false, false, false, false, true, true, true, true, true, true, true, true, true, true, true, true, false, false, false, false, false, false, false, false, false, false, false, false, false, false, false, false, false, false, false, false, false, false, false, false, false, false, false, false, false, false, false, false, false, false, false, false, false, false, false, false, false, false, false, false, false, false, false, false, false, false, false, false, false, false, false, false, false, false, false, false, false, false, false, false, false, false, false, false, false, false, false, false, false, false, false, false, false, false, false, false, false, false, false, false, false, false, false, false, false, false, false, false, false, false, false, false, false, false, false, false, false, false, false, false, false, false, false, false, false, false, false, false, false] (by kernel_rfl)]
        simp only [pickv, Nat.reduceAdd, Nat.zero_add, e6, f9_, Act.put, List.setIfInBounds_toArray, List.set_cons_zero, List.set_cons_succ]
        clear e6 f9_ HF
        generalize a.tmps.getD 29 undef = u29
        generalize a.tmps.getD 30 undef = u30
        generalize a.tmps.getD 31 undef = u31
        generalize a.tmps.getD 32 undef = u32
        generalize a.tmps.getD 33 undef = u33
        generalize a.tmps.getD 34 undef = u34
        generalize a.tmps.getD 35 undef = u35
        generalize a.tmps.getD 36 undef = u36
        generalize a.tmps.getD 37 undef = u37
        generalize a.tmps.getD 28 undef = u28
        generalize a.tmps.getD 38 undef = u38
        have BC3 := Lib.hid (BC2.out.upd HU.out (fun h => h))
        have AR3 := Lib.hid (AR2.out.upd HU.out (fun h => h))
        have HA3 := Lib.hid (HA2.out.upd0 HU.out)
        have HS3 := Lib.hid (HS2.out.upd0 HU.out)
        have HSV3 := Lib.hid (HSV2.out.upd0 HU.out)
        have U3 := Lib.hid (U2.out.trans HU.out (fun _ h => h.elim))
        generalize w' = w3 at XF3 QX3 QY3 BC3 AR3 HA3 HS3 HSV3 U3 ⊢
        clear HU hg BC2 AR2 HA2 HS2 HSV2 U2
        have BCc0 : w3.cell? ⟨w.heap.size, 0, none⟩ = some (.slice A n c) := BC3.out.cell 0
        have BCc1 : w3.cell? ⟨w.heap.size, 1, none⟩ = some (.slice M m d) := BC3.out.cell 1
        have BCl : w.heap.size < w3.heap.size := BC3.out.lt
        have ARc0 : w3.cell? ⟨w.heap.size + 1, 0, none⟩ = some (.int .i64 p) := AR3.out.cell 0
        have ARc1 : w3.cell? ⟨w.heap.size + 1, 1, none⟩ = some (.int .i64 r) := AR3.out.cell 1
        have ARc2 : w3.cell? ⟨w.heap.size + 1, 2, none⟩ = some (.int .i64 s) := AR3.out.cell 2
        have ARl : w.heap.size + 1 < w3.heap.size := AR3.out.lt
        have XFc0 : w3.cell? ⟨gf, 0, none⟩ = some (.slice A2 n' c2) := XF3.out.cell 0
        have XFc1 : w3.cell? ⟨gf, 1, none⟩ = some (.slice M2 m' d2) := XF3.out.cell 1
        have XFl : gf < w3.heap.size := XF3.out.lt
        go_wp2_with fail
        clear BCc0 BCc1 BCl ARc0 ARc1 ARc2 ARl XFc0 XFc1 XFl
        refine (radd_n HBD.out HN.out HM.out HNN.out HMM.out (by omega) (by omega) _ HA3.out HS3.out).mono ?_
        rintro e w4 ⟨A3, c3, M3, d3, rfl, qQZ, qQW, _, hd⟩
        have hu := Upd.of_below hd (fun _ => False)
        have BC4 := Lib.hid (BC3.out.upd hu (fun h => h))
        have AR4 := Lib.hid (AR3.out.upd hu (fun h => h))
        have XF4 := Lib.hid (XF3.out.upd hu (fun h => h))
        have HA4 := Lib.hid (HA3.out.upd0 hu)
        have HS4 := Lib.hid (HS3.out.upd0 hu)
        have HSV4 := Lib.hid (HSV3.out.upd0 hu)
        have QX4 := Lib.hid (QX3.out.upd0 hu)
        have QY4 := Lib.hid (QY3.out.upd0 hu)
        have U4 := Lib.hid (U3.out.trans hu (fun _ h => h.elim))
        clear hd hu BC3 AR3 XF3 HA3 HS3 HSV3 QX3 QY3 U3
        have BCc0 : w4.cell? ⟨w.heap.size, 0, none⟩ = some (.slice A n c) := BC4.out.cell 0
        have BCc1 : w4.cell? ⟨w.heap.size, 1, none⟩ = some (.slice M m d) := BC4.out.cell 1
        have BCl : w.heap.size < w4.heap.size := BC4.out.lt
        have ARc0 : w4.cell? ⟨w.heap.size + 1, 0, none⟩ = some (.int .i64 p) := AR4.out.cell 0
        have ARc1 : w4.cell? ⟨w.heap.size + 1, 1, none⟩ = some (.int .i64 r) := AR4.out.cell 1
        have ARc2 : w4.cell? ⟨w.heap.size + 1, 2, none⟩ = some (.int .i64 s) := AR4.out.cell 2
        have ARl : w.heap.size + 1 < w4.heap.size := AR4.out.lt
        have XFc0 : w4.cell? ⟨gf, 0, none⟩ = some (.slice A2 n' c2) := XF4.out.cell 0
        have XFc1 : w4.cell? ⟨gf, 1, none⟩ = some (.slice M2 m' d2) := XF4.out.cell 1
        have XFl : gf < w4.heap.size := XF4.out.lt
        have QZ4 := Lib.hid qQZ
        clear qQZ
        have QW4 := Lib.hid qQW
        clear qQW
        go_wp2_with fail
        clear BCc0 BCc1 BCl ARc0 ARc1 ARc2 ARl XFc0 XFc1 XFl
        refine (made_to2 HM.out (by omega) _ (HS4.out.alloc _)).mono ?_
        rintro e w5 ⟨X4, e4, rfl, qQE, hd⟩
        have hu := Upd.of_below hd (fun _ => False)
        have BC5 := Lib.hid ((BC4.out.alloc _).upd hu (fun h => h))
        have AR5 := Lib.hid ((AR4.out.alloc _).upd hu (fun h => h))
        have XF5 := Lib.hid ((XF4.out.alloc _).upd hu (fun h => h))
        have HA5 := Lib.hid ((HA4.out.alloc _).upd0 hu)
        have HS5 := Lib.hid ((HS4.out.alloc _).upd0 hu)
        have HSV5 := Lib.hid ((HSV4.out.alloc _).upd0 hu)
        have QX5 := Lib.hid ((QX4.out.alloc _).upd0 hu)
        have QY5 := Lib.hid ((QY4.out.alloc _).upd0 hu)
        have QZ5 := Lib.hid ((QZ4.out.alloc _).upd0 hu)
        have QW5 := Lib.hid ((QW4.out.alloc _).upd0 hu)
        have U5 := Lib.hid ((U4.out.alloc _).trans hu (fun _ h => h.elim))
        have XY5 := Lib.hid ((Blk.new w4 #[.slice A3 n' c3, .slice M3 m' d3] 25).upd hu (fun h => h))
        clear hd hu BC4 AR4 XF4 HA4 HS4 HSV4 QX4 QY4 QZ4 QW4 U4
        have QE5 := Lib.hid qQE
        clear qQE
        have BCc0 : w5.cell? ⟨w.heap.size, 0, none⟩ = some (.slice A n c) := BC5.out.cell 0
        have BCc1 : w5.cell? ⟨w.heap.size, 1, none⟩ = some (.slice M m d) := BC5.out.cell 1
        have BCl : w.heap.size < w5.heap.size := BC5.out.lt
        have ARc0 : w5.cell? ⟨w.heap.size + 1, 0, none⟩ = some (.int .i64 p) := AR5.out.cell 0
        have ARc1 : w5.cell? ⟨w.heap.size + 1, 1, none⟩ = some (.int .i64 r) := AR5.out.cell 1
        have ARc2 : w5.cell? ⟨w.heap.size + 1, 2, none⟩ = some (.int .i64 s) := AR5.out.cell 2
        have ARl : w.heap.size + 1 < w5.heap.size := AR5.out.lt
        have XFc0 : w5.cell? ⟨gf, 0, none⟩ = some (.slice A2 n' c2) := XF5.out.cell 0
        have XFc1 : w5.cell? ⟨gf, 1, none⟩ = some (.slice M2 m' d2) := XF5.out.cell 1
        have XFl : gf < w5.heap.size := XF5.out.lt
        have XYc0 : w5.cell? ⟨w4.heap.size, 0, none⟩ = some (.slice A3 n' c3) := XY5.out.cell 0
        have XYc1 : w5.cell? ⟨w4.heap.size, 1, none⟩ = some (.slice M3 m' d3) := XY5.out.cell 1
        have XYl : w4.heap.size < w5.heap.size := XY5.out.lt
        go_wp2_with fail
        clear BCc0 BCc1 BCl ARc0 ARc1 ARc2 ARl XFc0 XFc1 XFl XYc0 XYc1 XYl
        refine (bsplit_b HSB.out HPS.out HPL.out HM.out HV.out (by omega) (by omega) _ QE5.out HSV5.out).mono ?_
        rintro e w6 ⟨P1, pc1, rfl, qQP, hd⟩
        have hu := Upd.of_below hd (fun _ => False)
        have BC6 := Lib.hid (BC5.out.upd hu (fun h => h))
        have AR6 := Lib.hid (AR5.out.upd hu (fun h => h))
        have XF6 := Lib.hid (XF5.out.upd hu (fun h => h))
        have XY6 := Lib.hid (XY5.out.upd hu (fun h => h))
        have HA6 := Lib.hid (HA5.out.upd0 hu)
        have HS6 := Lib.hid (HS5.out.upd0 hu)
        have HSV6 := Lib.hid (HSV5.out.upd0 hu)
        have QX6 := Lib.hid (QX5.out.upd0 hu)
        have QY6 := Lib.hid (QY5.out.upd0 hu)
        have QZ6 := Lib.hid (QZ5.out.upd0 hu)
        have QW6 := Lib.hid (QW5.out.upd0 hu)
        have QE6 := Lib.hid (QE5.out.upd0 hu)
        have U6 := Lib.hid (U5.out.trans hu (fun _ h => h.elim))
        clear hd hu BC5 AR5 XF5 XY5 HA5 HS5 HSV5 QX5 QY5 QZ5 QW5 QE5 U5
        have QP6 := Lib.hid qQP
        clear qQP
        have BCc0 : w6.cell? ⟨w.heap.size, 0, none⟩ = some (.slice A n c) := BC6.out.cell 0
        have BCc1 : w6.cell? ⟨w.heap.size, 1, none⟩ = some (.slice M m d) := BC6.out.cell 1
        have BCl : w.heap.size < w6.heap.size := BC6.out.lt
        have ARc0 : w6.cell? ⟨w.heap.size + 1, 0, none⟩ = some (.int .i64 p) := AR6.out.cell 0
        have ARc1 : w6.cell? ⟨w.heap.size + 1, 1, none⟩ = some (.int .i64 r) := AR6.out.cell 1
        have ARc2 : w6.cell? ⟨w.heap.size + 1, 2, none⟩ = some (.int .i64 s) := AR6.out.cell 2
        have ARl : w.heap.size + 1 < w6.heap.size := AR6.out.lt
        have XFc0 : w6.cell? ⟨gf, 0, none⟩ = some (.slice A2 n' c2) := XF6.out.cell 0
        have XFc1 : w6.cell? ⟨gf, 1, none⟩ = some (.slice M2 m' d2) := XF6.out.cell 1
        have XFl : gf < w6.heap.size := XF6.out.lt
        have XYc0 : w6.cell? ⟨w4.heap.size, 0, none⟩ = some (.slice A3 n' c3) := XY6.out.cell 0
        have XYc1 : w6.cell? ⟨w4.heap.size, 1, none⟩ = some (.slice M3 m' d3) := XY6.out.cell 1
        have XYl : w4.heap.size < w6.heap.size := XY6.out.lt
        go_wp2_with fail
        clear BCc0 BCc1 BCl ARc0 ARc1 ARc2 ARl XFc0 XFc1 XFl XYc0 XYc1 XYl
        refine (rsplit_b HSB.out HPS.out HPL.out HM.out HV.out (by omega) (by omega) (by omega) _ HS6.out HSV6.out).mono ?_
        rintro e w7 ⟨R1, rc1, rfl, qQR, hd⟩
        have hu := Upd.of_below hd (fun _ => False)
        have BC7 := Lib.hid (BC6.out.upd hu (fun h => h))
        have AR7 := Lib.hid (AR6.out.upd hu (fun h => h))
        have XF7 := Lib.hid (XF6.out.upd hu (fun h => h))
        have XY7 := Lib.hid (XY6.out.upd hu (fun h => h))
        have HA7 := Lib.hid (HA6.out.upd0 hu)
        have HS7 := Lib.hid (HS6.out.upd0 hu)
        have HSV7 := Lib.hid (HSV6.out.upd0 hu)
        have QX7 := Lib.hid (QX6.out.upd0 hu)
        have QY7 := Lib.hid (QY6.out.upd0 hu)
        have QZ7 := Lib.hid (QZ6.out.upd0 hu)
        have QW7 := Lib.hid (QW6.out.upd0 hu)
        have QE7 := Lib.hid (QE6.out.upd0 hu)
        have QP7 := Lib.hid (QP6.out.upd0 hu)
        have U7 := Lib.hid (U6.out.trans hu (fun _ h => h.elim))
        clear hd hu BC6 AR6 XF6 XY6 HA6 HS6 HSV6 QX6 QY6 QZ6 QW6 QE6 QP6 U6
        have QR7 := Lib.hid qQR
        clear qQR
        have BCc0 : w7.cell? ⟨w.heap.size, 0, none⟩ = some (.slice A n c) := BC7.out.cell 0
        have BCc1 : w7.cell? ⟨w.heap.size, 1, none⟩ = some (.slice M m d) := BC7.out.cell 1
        have BCl : w.heap.size < w7.heap.size := BC7.out.lt
        have ARc0 : w7.cell? ⟨w.heap.size + 1, 0, none⟩ = some (.int .i64 p) := AR7.out.cell 0
        have ARc1 : w7.cell? ⟨w.heap.size + 1, 1, none⟩ = some (.int .i64 r) := AR7.out.cell 1
        have ARc2 : w7.cell? ⟨w.heap.size + 1, 2, none⟩ = some (.int .i64 s) := AR7.out.cell 2
        have ARl : w.heap.size + 1 < w7.heap.size := AR7.out.lt
        have XFc0 : w7.cell? ⟨gf, 0, none⟩ = some (.slice A2 n' c2) := XF7.out.cell 0
        have XFc1 : w7.cell? ⟨gf, 1, none⟩ = some (.slice M2 m' d2) := XF7.out.cell 1
        have XFl : gf < w7.heap.size := XF7.out.lt
        have XYc0 : w7.cell? ⟨w4.heap.size, 0, none⟩ = some (.slice A3 n' c3) := XY7.out.cell 0
        have XYc1 : w7.cell? ⟨w4.heap.size, 1, none⟩ = some (.slice M3 m' d3) := XY7.out.cell 1
        have XYl : w4.heap.size < w7.heap.size := XY7.out.lt
        go_wp2_with fail
        clear BCc0 BCc1 BCl ARc0 ARc1 ARc2 ARl XFc0 XFc1 XFl XYc0 XYc1 XYl
        go_loopw [16] (fun iv wr => ∃ j : Nat, j ≤ pl ∧ iv = .int .i64 j ∧ Hid (Upd (fun _ => False) w7 wr)) (fun iv _ => pl - (intOf iv).toNat)
        case atStart => exact ⟨0, Nat.zero_le _, rfl, Lib.hid (Upd.refl _ _)⟩
        case round =>
          obtain ⟨j, hj, rfl, hu⟩ := hrel
          by_cases hlt : j < pl
          · obtain ⟨x, hx⟩ : ∃ x, ps[j]? = some x := ⟨ps[j]'(by rw [HPL.out]; exact hlt), List.getElem?_eq_getElem _⟩
            obtain ⟨mm, hmm, hx1⟩ := sps_at (n := n) (ms := ms) (vals := vals) (by rw [HPS.out]; exact hx)
            obtain ⟨pb, po, e, hpb, p0, p1⟩ := (QP7.out.upd0 hu.out).pr hx
            subst e
            obtain ⟨rb, ro, e, hrb, r0⟩ := (QR7.out.upd0 hu.out).num (show (ps.map Prod.snd)[j]? = some x.2 by rw [List.getElem?_map, hx]; rfl)
            subst e
            obtain ⟨mb, mo, e, hmb, m0, m1⟩ := (HS7.out.upd0 hu.out).pr hmm
            subst e
            obtain ⟨x1, x2⟩ := x
            simp only at hx1 p0 p1 r0
            subst hx1
            have hjm : j < m := by have := (List.getElem?_eq_some_iff.1 hmm).1; rw [HM.out] at this; exact this
            have i0 : (0 : Int) ≤ (j : Int) := Int.natCast_nonneg _
            have i1 : (j : Int) < (pl : Int) := by omega
            have i2 : (j : Int) < (m : Int) := by omega
            have BCr := Lib.hid (BC7.out.upd hu.out (fun h => h))
            have y1 : wr.cell? ⟨w.heap.size, 1, none⟩ = some (.slice (some ⟨mb, mo, none⟩) m d) := BCr.out.cell 1
            have yl := BCr.out.lt
            clear hx hmm
            go_wp2_with fail
            go_quiet (fail)
            go_wp2
            go_roundw
            case rel => exact ⟨j + 1, by omega, by go_num, Lib.hid (hu.out.drewN _)⟩
            case measure => simp [intOf]; omega
          · have hUs := Lib.hid hu.out
            have BC8 := Lib.hid (BC7.out.upd hu.out (fun h => h))
            have AR8 := Lib.hid (AR7.out.upd hu.out (fun h => h))
            have XF8 := Lib.hid (XF7.out.upd hu.out (fun h => h))
            have XY8 := Lib.hid (XY7.out.upd hu.out (fun h => h))
            have HA8 := Lib.hid (HA7.out.upd0 hu.out)
            have HS8 := Lib.hid (HS7.out.upd0 hu.out)
            have HSV8 := Lib.hid (HSV7.out.upd0 hu.out)
            have QX8 := Lib.hid (QX7.out.upd0 hu.out)
            have QY8 := Lib.hid (QY7.out.upd0 hu.out)
            have QZ8 := Lib.hid (QZ7.out.upd0 hu.out)
            have QW8 := Lib.hid (QW7.out.upd0 hu.out)
            have QE8 := Lib.hid (QE7.out.upd0 hu.out)
            have QP8 := Lib.hid (QP7.out.upd0 hu.out)
            have QR8 := Lib.hid (QR7.out.upd0 hu.out)
            have U8 := Lib.hid (U7.out.trans hu.out (fun _ h => h.elim))
            clear hu hUs BC7 AR7 XF7 XY7 HA7 HS7 HSV7 QX7 QY7 QZ7 QW7 QE7 QP7 QR7 U7
            skip
            have BCc0 : wr.cell? ⟨w.heap.size, 0, none⟩ = some (.slice A n c) := BC8.out.cell 0
            have BCc1 : wr.cell? ⟨w.heap.size, 1, none⟩ = some (.slice M m d) := BC8.out.cell 1
            have BCl : w.heap.size < wr.heap.size := BC8.out.lt
            have ARc0 : wr.cell? ⟨w.heap.size + 1, 0, none⟩ = some (.int .i64 p) := AR8.out.cell 0
            have ARc1 : wr.cell? ⟨w.heap.size + 1, 1, none⟩ = some (.int .i64 r) := AR8.out.cell 1
            have ARc2 : wr.cell? ⟨w.heap.size + 1, 2, none⟩ = some (.int .i64 s) := AR8.out.cell 2
            have ARl : w.heap.size + 1 < wr.heap.size := AR8.out.lt
            have XFc0 : wr.cell? ⟨gf, 0, none⟩ = some (.slice A2 n' c2) := XF8.out.cell 0
            have XFc1 : wr.cell? ⟨gf, 1, none⟩ = some (.slice M2 m' d2) := XF8.out.cell 1
            have XFl : gf < wr.heap.size := XF8.out.lt
            have XYc0 : wr.cell? ⟨w4.heap.size, 0, none⟩ = some (.slice A3 n' c3) := XY8.out.cell 0
            have XYc1 : wr.cell? ⟨w4.heap.size, 1, none⟩ = some (.slice M3 m' d3) := XY8.out.cell 1
            have XYl : w4.heap.size < wr.heap.size := XY8.out.lt
            go_wp2_with fail
            clear BCc0 BCc1 BCl ARc0 ARc1 ARc2 ARl XFc0 XFc1 XFl XYc0 XYc1 XYl
            refine (one_any p r _).mono ?_
            rintro e w9 ⟨A5, c5, M5, d5, rfl, qQA, qQM, _, _, hd⟩
            have hu := Upd.of_below hd (fun _ => False)
            have BC9 := Lib.hid (BC8.out.upd hu (fun h => h))
            have AR9 := Lib.hid (AR8.out.upd hu (fun h => h))
            have XF9 := Lib.hid (XF8.out.upd hu (fun h => h))
            have XY9 := Lib.hid (XY8.out.upd hu (fun h => h))
            have HA9 := Lib.hid (HA8.out.upd0 hu)
            have HS9 := Lib.hid (HS8.out.upd0 hu)
            have HSV9 := Lib.hid (HSV8.out.upd0 hu)
            have QX9 := Lib.hid (QX8.out.upd0 hu)
            have QY9 := Lib.hid (QY8.out.upd0 hu)
            have QZ9 := Lib.hid (QZ8.out.upd0 hu)
            have QW9 := Lib.hid (QW8.out.upd0 hu)
            have QE9 := Lib.hid (QE8.out.upd0 hu)
            have QP9 := Lib.hid (QP8.out.upd0 hu)
            have QR9 := Lib.hid (QR8.out.upd0 hu)
            have U9 := Lib.hid (U8.out.trans hu (fun _ h => h.elim))
            clear hd hu BC8 AR8 XF8 XY8 HA8 HS8 HSV8 QX8 QY8 QZ8 QW8 QE8 QP8 QR8 U8
            have QA9 := Lib.hid qQA
            clear qQA
            have QM9 := Lib.hid qQM
            clear qQM
            have BCc0 : w9.cell? ⟨w.heap.size, 0, none⟩ = some (.slice A n c) := BC9.out.cell 0
            have BCc1 : w9.cell? ⟨w.heap.size, 1, none⟩ = some (.slice M m d) := BC9.out.cell 1
            have BCl : w.heap.size < w9.heap.size := BC9.out.lt
            have ARc0 : w9.cell? ⟨w.heap.size + 1, 0, none⟩ = some (.int .i64 p) := AR9.out.cell 0
            have ARc1 : w9.cell? ⟨w.heap.size + 1, 1, none⟩ = some (.int .i64 r) := AR9.out.cell 1
            have ARc2 : w9.cell? ⟨w.heap.size + 1, 2, none⟩ = some (.int .i64 s) := AR9.out.cell 2
            have ARl : w.heap.size + 1 < w9.heap.size := AR9.out.lt
            have XFc0 : w9.cell? ⟨gf, 0, none⟩ = some (.slice A2 n' c2) := XF9.out.cell 0
            have XFc1 : w9.cell? ⟨gf, 1, none⟩ = some (.slice M2 m' d2) := XF9.out.cell 1
            have XFl : gf < w9.heap.size := XF9.out.lt
            have XYc0 : w9.cell? ⟨w4.heap.size, 0, none⟩ = some (.slice A3 n' c3) := XY9.out.cell 0
            have XYc1 : w9.cell? ⟨w4.heap.size, 1, none⟩ = some (.slice M3 m' d3) := XY9.out.cell 1
            have XYl : w4.heap.size < w9.heap.size := XY9.out.lt
            go_wp2_with fail
            clear BCc0 BCc1 BCl ARc0 ARc1 ARc2 ARl XFc0 XFc1 XFl XYc0 XYc1 XYl
            refine Code.gen (fun W => Blk W (w.heap.size) 25 #[.slice A n c, .slice M m d] ∧ Blk W (w.heap.size + 1) 26 #[.int .i64 p, .int .i64 r, .int .i64 s] ∧ Blk W (gf) 31 #[.slice A2 n' c2, .slice M2 m' d2] ∧ Blk W (w4.heap.size) 25 #[.slice A3 n' c3, .slice M3 m' d3] ∧ Blk W (w9.heap.size) 31 #[.slice A5 1 c5, .slice M5 1 d5] ∧ Sl W A n c (nums xs) ∧ Sl W M m d (prs ms) ∧ Sl W V v q (nums vals) ∧ Sl W A2 n' c2 (nums xs') ∧ Sl W M2 m' d2 (prs ms') ∧ Sl W A3 n' c3 (nums xs') ∧ Sl W M3 m' d3 (prs ms') ∧ Sl W X4 m e4 (prs ms) ∧ Sl W P1 pl pc1 (prs ps) ∧ Sl W R1 pl rc1 (nums (ps.map Prod.snd)) ∧ Sl W A5 1 c5 (nums [r]) ∧ Sl W M5 1 d5 (prs [(p, 0)]) ∧ Upd (fun _ => False) w W) ⟨(BC9.out.alloc _), (AR9.out.alloc _), (XF9.out.alloc _), (XY9.out.alloc _), (Blk.new w9 #[.slice A5 1 c5, .slice M5 1 d5] 31), (HA9.out.alloc _), (HS9.out.alloc _), (HSV9.out.alloc _), (QX9.out.alloc _), (QY9.out.alloc _), (QZ9.out.alloc _), (QW9.out.alloc _), (QE9.out.alloc _), (QP9.out.alloc _), (QR9.out.alloc _), (QA9.out.alloc _), (QM9.out.alloc _), (U9.out.alloc _)⟩ ?_
            rintro w10 ⟨qBC, qAR, qXF, qXY, qXO, qHA, qHS, qHSV, qQX, qQY, qQZ, qQW, qQE, qQP, qQR, qQA, qQM, qU⟩
            have BC10 := Lib.hid qBC
            have AR10 := Lib.hid qAR
            have XF10 := Lib.hid qXF
            have XY10 := Lib.hid qXY
            have XO10 := Lib.hid qXO
            have HA10 := Lib.hid qHA
            have HS10 := Lib.hid qHS
            have HSV10 := Lib.hid qHSV
            have QX10 := Lib.hid qQX
            have QY10 := Lib.hid qQY
            have QZ10 := Lib.hid qQZ
            have QW10 := Lib.hid qQW
            have QE10 := Lib.hid qQE
            have QP10 := Lib.hid qQP
            have QR10 := Lib.hid qQR
            have QA10 := Lib.hid qQA
            have QM10 := Lib.hid qQM
            have U10 := Lib.hid qU
            clear qBC qAR qXF qXY qXO qHA qHS qHSV qQX qQY qQZ qQW qQE qQP qQR qQA qQM qU BC9 AR9 XF9 XY9 HA9 HS9 HSV9 QX9 QY9 QZ9 QW9 QE9 QP9 QR9 QA9 QM9 U9
            have BCc0 : w10.cell? ⟨w.heap.size, 0, none⟩ = some (.slice A n c) := BC10.out.cell 0
            have BCc1 : w10.cell? ⟨w.heap.size, 1, none⟩ = some (.slice M m d) := BC10.out.cell 1
            have BCl : w.heap.size < w10.heap.size := BC10.out.lt
            have ARc0 : w10.cell? ⟨w.heap.size + 1, 0, none⟩ = some (.int .i64 p) := AR10.out.cell 0
            have ARc1 : w10.cell? ⟨w.heap.size + 1, 1, none⟩ = some (.int .i64 r) := AR10.out.cell 1
            have ARc2 : w10.cell? ⟨w.heap.size + 1, 2, none⟩ = some (.int .i64 s) := AR10.out.cell 2
            have ARl : w.heap.size + 1 < w10.heap.size := AR10.out.lt
            have XFc0 : w10.cell? ⟨gf, 0, none⟩ = some (.slice A2 n' c2) := XF10.out.cell 0
            have XFc1 : w10.cell? ⟨gf, 1, none⟩ = some (.slice M2 m' d2) := XF10.out.cell 1
            have XFl : gf < w10.heap.size := XF10.out.lt
            have XYc0 : w10.cell? ⟨w4.heap.size, 0, none⟩ = some (.slice A3 n' c3) := XY10.out.cell 0
            have XYc1 : w10.cell? ⟨w4.heap.size, 1, none⟩ = some (.slice M3 m' d3) := XY10.out.cell 1
            have XYl : w4.heap.size < w10.heap.size := XY10.out.lt
            have XOc0 : w10.cell? ⟨w9.heap.size, 0, none⟩ = some (.slice A5 1 c5) := XO10.out.cell 0
            have XOc1 : w10.cell? ⟨w9.heap.size, 1, none⟩ = some (.slice M5 1 d5) := XO10.out.cell 1
            have XOl : w9.heap.size < w10.heap.size := XO10.out.lt
            clear BCc0 BCc1 BCl ARc0 ARc1 ARc2 ARl XFc0 XFc1 XFl XYc0 XYc1 XYl XOc0 XOc1 XOl
            obtain ⟨ld, hld⟩ : ∃ x, lead ms = x := ⟨_, rfl⟩
            have HLD := Lib.hid hld
            clear hld
            by_cases hfull : s ≤ (n : Int)
            · have hfd : decide ((n : Int) ≥ s) = true := by simpa using hfull
              have BCc0 : w10.cell? ⟨w.heap.size, 0, none⟩ = some (.slice A n c) := BC10.out.cell 0
              have BCc1 : w10.cell? ⟨w.heap.size, 1, none⟩ = some (.slice M m d) := BC10.out.cell 1
              have BCl : w.heap.size < w10.heap.size := BC10.out.lt
              have ARc0 : w10.cell? ⟨w.heap.size + 1, 0, none⟩ = some (.int .i64 p) := AR10.out.cell 0
              have ARc1 : w10.cell? ⟨w.heap.size + 1, 1, none⟩ = some (.int .i64 r) := AR10.out.cell 1
              have ARc2 : w10.cell? ⟨w.heap.size + 1, 2, none⟩ = some (.int .i64 s) := AR10.out.cell 2
              have ARl : w.heap.size + 1 < w10.heap.size := AR10.out.lt
              have XFc0 : w10.cell? ⟨gf, 0, none⟩ = some (.slice A2 n' c2) := XF10.out.cell 0
              have XFc1 : w10.cell? ⟨gf, 1, none⟩ = some (.slice M2 m' d2) := XF10.out.cell 1
              have XFl : gf < w10.heap.size := XF10.out.lt
              have XYc0 : w10.cell? ⟨w4.heap.size, 0, none⟩ = some (.slice A3 n' c3) := XY10.out.cell 0
              have XYc1 : w10.cell? ⟨w4.heap.size, 1, none⟩ = some (.slice M3 m' d3) := XY10.out.cell 1
              have XYl : w4.heap.size < w10.heap.size := XY10.out.lt
              have XOc0 : w10.cell? ⟨w9.heap.size, 0, none⟩ = some (.slice A5 1 c5) := XO10.out.cell 0
              have XOc1 : w10.cell? ⟨w9.heap.size, 1, none⟩ = some (.slice M5 1 d5) := XO10.out.cell 1
              have XOl : w9.heap.size < w10.heap.size := XO10.out.lt
              go_region_held3 (fun w' => w'.cell? ⟨w.heap.size, 0, none⟩ = some (.slice A n c) ∧ w'.cell? ⟨w.heap.size, 1, none⟩ = some (.slice M m d) ∧ w'.cell? ⟨w.heap.size + 1, 0, none⟩ = some (.int .i64 p) ∧ w'.cell? ⟨w.heap.size + 1, 1, none⟩ = some (.int .i64 r) ∧ w'.cell? ⟨w.heap.size + 1, 2, none⟩ = some (.int .i64 s) ∧ w'.cell? ⟨gf, 0, none⟩ = some (.slice A2 n' c2) ∧ w'.cell? ⟨gf, 1, none⟩ = some (.slice M2 m' d2) ∧ w'.cell? ⟨w4.heap.size, 0, none⟩ = some (.slice A3 n' c3) ∧ w'.cell? ⟨w4.heap.size, 1, none⟩ = some (.slice M3 m' d3) ∧ w'.cell? ⟨w9.heap.size, 0, none⟩ = some (.slice A5 1 c5) ∧ w'.cell? ⟨w9.heap.size, 1, none⟩ = some (.slice M5 1 d5)) (go_keep) (first | (go_at_call 17; refine (same_to (n := 1) (m := 1) (xs := [r]) (ms := [(p, 0)]) rfl rfl (by omega) (by omega) _ QA19.out Q919.out Qa19.out Qb19.out).mono ?_; rintro e w20 ⟨rfl, hd⟩; have hu := Upd.of_below hd (fun _ => False); have BC20 := Lib.hid (BC19.out.upd hu (fun h => h)); have AR20 := Lib.hid (AR19.out.upd hu (fun h => h)); have XF20 := Lib.hid (XF19.out.upd hu (fun h => h)); have XY20 := Lib.hid (XY19.out.upd hu (fun h => h)); have XO20 := Lib.hid (XO19.out.upd hu (fun h => h)); have HA20 := Lib.hid (HA19.out.upd0 hu); have HS20 := Lib.hid (HS19.out.upd0 hu); have HSV20 := Lib.hid (HSV19.out.upd0 hu); have QX20 := Lib.hid (QX19.out.upd0 hu); have QY20 := Lib.hid (QY19.out.upd0 hu); have QZ20 := Lib.hid (QZ19.out.upd0 hu); have QW20 := Lib.hid (QW19.out.upd0 hu); have QE20 := Lib.hid (QE19.out.upd0 hu); have QP20 := Lib.hid (QP19.out.upd0 hu); have QR20 := Lib.hid (QR19.out.upd0 hu); have QA20 := Lib.hid (QA19.out.upd0 hu); have QM20 := Lib.hid (QM19.out.upd0 hu); have Q620 := Lib.hid (Q619.out.upd0 hu); have Q720 := Lib.hid (Q719.out.upd0 hu); have Q820 := Lib.hid (Q819.out.upd0 hu); have Q920 := Lib.hid (Q919.out.upd0 hu); have Qa20 := Lib.hid (Qa19.out.upd0 hu); have Qb20 := Lib.hid (Qb19.out.upd0 hu); have U20 := Lib.hid (U19.out.trans hu (fun _ h => h.elim)); have BCd0_20 : w20.cell? ⟨w.heap.size, 0, none⟩ = some (.slice A n c) := BC20.out.cell 0; have BCd1_20 : w20.cell? ⟨w.heap.size, 1, none⟩ = some (.slice M m d) := BC20.out.cell 1; have ARd0_20 : w20.cell? ⟨w.heap.size + 1, 0, none⟩ = some (.int .i64 p) := AR20.out.cell 0; have ARd1_20 : w20.cell? ⟨w.heap.size + 1, 1, none⟩ = some (.int .i64 r) := AR20.out.cell 1; have ARd2_20 : w20.cell? ⟨w.heap.size + 1, 2, none⟩ = some (.int .i64 s) := AR20.out.cell 2; have XFd0_20 : w20.cell? ⟨gf, 0, none⟩ = some (.slice A2 n' c2) := XF20.out.cell 0; have XFd1_20 : w20.cell? ⟨gf, 1, none⟩ = some (.slice M2 m' d2) := XF20.out.cell 1; have XYd0_20 : w20.cell? ⟨w4.heap.size, 0, none⟩ = some (.slice A3 n' c3) := XY20.out.cell 0; have XYd1_20 : w20.cell? ⟨w4.heap.size, 1, none⟩ = some (.slice M3 m' d3) := XY20.out.cell 1; have XOd0_20 : w20.cell? ⟨w9.heap.size, 0, none⟩ = some (.slice A5 1 c5) := XO20.out.cell 0; have XOd1_20 : w20.cell? ⟨w9.heap.size, 1, none⟩ = some (.slice M5 1 d5) := XO20.out.cell 1; clear hd hu) | (go_at_call 22; refine (rone_any p r _).mono ?_; rintro e w19 ⟨Aa, ca, Ma, da, rfl, qQa, qQb, hd⟩; have hu := Upd.of_below hd (fun _ => False); have BC19 := Lib.hid (BC18.out.upd hu (fun h => h)); have AR19 := Lib.hid (AR18.out.upd hu (fun h => h)); have XF19 := Lib.hid (XF18.out.upd hu (fun h => h)); have XY19 := Lib.hid (XY18.out.upd hu (fun h => h)); have XO19 := Lib.hid (XO18.out.upd hu (fun h => h)); have HA19 := Lib.hid (HA18.out.upd0 hu); have HS19 := Lib.hid (HS18.out.upd0 hu); have HSV19 := Lib.hid (HSV18.out.upd0 hu); have QX19 := Lib.hid (QX18.out.upd0 hu); have QY19 := Lib.hid (QY18.out.upd0 hu); have QZ19 := Lib.hid (QZ18.out.upd0 hu); have QW19 := Lib.hid (QW18.out.upd0 hu); have QE19 := Lib.hid (QE18.out.upd0 hu); have QP19 := Lib.hid (QP18.out.upd0 hu); have QR19 := Lib.hid (QR18.out.upd0 hu); have QA19 := Lib.hid (QA18.out.upd0 hu); have QM19 := Lib.hid (QM18.out.upd0 hu); have Q619 := Lib.hid (Q618.out.upd0 hu); have Q719 := Lib.hid (Q718.out.upd0 hu); have Q819 := Lib.hid (Q818.out.upd0 hu); have Q919 := Lib.hid (Q918.out.upd0 hu); have Qa19 := Lib.hid qQa; clear qQa; have Qb19 := Lib.hid qQb; clear qQb; have U19 := Lib.hid (U18.out.trans hu (fun _ h => h.elim)); have BCd0_19 : w19.cell? ⟨w.heap.size, 0, none⟩ = some (.slice A n c) := BC19.out.cell 0; have BCd1_19 : w19.cell? ⟨w.heap.size, 1, none⟩ = some (.slice M m d) := BC19.out.cell 1; have ARd0_19 : w19.cell? ⟨w.heap.size + 1, 0, none⟩ = some (.int .i64 p) := AR19.out.cell 0; have ARd1_19 : w19.cell? ⟨w.heap.size + 1, 1, none⟩ = some (.int .i64 r) := AR19.out.cell 1; have ARd2_19 : w19.cell? ⟨w.heap.size + 1, 2, none⟩ = some (.int .i64 s) := AR19.out.cell 2; have XFd0_19 : w19.cell? ⟨gf, 0, none⟩ = some (.slice A2 n' c2) := XF19.out.cell 0; have XFd1_19 : w19.cell? ⟨gf, 1, none⟩ = some (.slice M2 m' d2) := XF19.out.cell 1; have XYd0_19 : w19.cell? ⟨w4.heap.size, 0, none⟩ = some (.slice A3 n' c3) := XY19.out.cell 0; have XYd1_19 : w19.cell? ⟨w4.heap.size, 1, none⟩ = some (.slice M3 m' d3) := XY19.out.cell 1; have XOd0_19 : w19.cell? ⟨w9.heap.size, 0, none⟩ = some (.slice A5 1 c5) := XO19.out.cell 0; have XOd1_19 : w19.cell? ⟨w9.heap.size, 1, none⟩ = some (.slice M5 1 d5) := XO19.out.cell 1; clear hd hu) | (go_at_call 18; refine (real_to3 (n := 1) (m := 1) (ms := [(p, 0)]) rfl (by omega) _ QM17.out).mono ?_; rintro e w18 ⟨M9, d9, rfl, qQ9, hd⟩; have hu := Upd.of_below hd (fun _ => False); have BC18 := Lib.hid (BC17.out.upd hu (fun h => h)); have AR18 := Lib.hid (AR17.out.upd hu (fun h => h)); have XF18 := Lib.hid (XF17.out.upd hu (fun h => h)); have XY18 := Lib.hid (XY17.out.upd hu (fun h => h)); have XO18 := Lib.hid (XO17.out.upd hu (fun h => h)); have HA18 := Lib.hid (HA17.out.upd0 hu); have HS18 := Lib.hid (HS17.out.upd0 hu); have HSV18 := Lib.hid (HSV17.out.upd0 hu); have QX18 := Lib.hid (QX17.out.upd0 hu); have QY18 := Lib.hid (QY17.out.upd0 hu); have QZ18 := Lib.hid (QZ17.out.upd0 hu); have QW18 := Lib.hid (QW17.out.upd0 hu); have QE18 := Lib.hid (QE17.out.upd0 hu); have QP18 := Lib.hid (QP17.out.upd0 hu); have QR18 := Lib.hid (QR17.out.upd0 hu); have QA18 := Lib.hid (QA17.out.upd0 hu); have QM18 := Lib.hid (QM17.out.upd0 hu); have Q618 := Lib.hid (Q617.out.upd0 hu); have Q718 := Lib.hid (Q717.out.upd0 hu); have Q818 := Lib.hid (Q817.out.upd0 hu); have Q918 := Lib.hid qQ9; clear qQ9; have U18 := Lib.hid (U17.out.trans hu (fun _ h => h.elim)); have BCd0_18 : w18.cell? ⟨w.heap.size, 0, none⟩ = some (.slice A n c) := BC18.out.cell 0; have BCd1_18 : w18.cell? ⟨w.heap.size, 1, none⟩ = some (.slice M m d) := BC18.out.cell 1; have ARd0_18 : w18.cell? ⟨w.heap.size + 1, 0, none⟩ = some (.int .i64 p) := AR18.out.cell 0; have ARd1_18 : w18.cell? ⟨w.heap.size + 1, 1, none⟩ = some (.int .i64 r) := AR18.out.cell 1; have ARd2_18 : w18.cell? ⟨w.heap.size + 1, 2, none⟩ = some (.int .i64 s) := AR18.out.cell 2; have XFd0_18 : w18.cell? ⟨gf, 0, none⟩ = some (.slice A2 n' c2) := XF18.out.cell 0; have XFd1_18 : w18.cell? ⟨gf, 1, none⟩ = some (.slice M2 m' d2) := XF18.out.cell 1; have XYd0_18 : w18.cell? ⟨w4.heap.size, 0, none⟩ = some (.slice A3 n' c3) := XY18.out.cell 0; have XYd1_18 : w18.cell? ⟨w4.heap.size, 1, none⟩ = some (.slice M3 m' d3) := XY18.out.cell 1; have XOd0_18 : w18.cell? ⟨w9.heap.size, 0, none⟩ = some (.slice A5 1 c5) := XO18.out.cell 0; have XOd1_18 : w18.cell? ⟨w9.heap.size, 1, none⟩ = some (.slice M5 1 d5) := XO18.out.cell 1; clear hd hu) | (go_at_call 21; refine (rlead_to HM.out HLD.out _ HS16.out).mono ?_; rintro e w17 ⟨rfl, hd⟩; have hu := Upd.of_below hd (fun _ => False); have BC17 := Lib.hid (BC16.out.upd hu (fun h => h)); have AR17 := Lib.hid (AR16.out.upd hu (fun h => h)); have XF17 := Lib.hid (XF16.out.upd hu (fun h => h)); have XY17 := Lib.hid (XY16.out.upd hu (fun h => h)); have XO17 := Lib.hid (XO16.out.upd hu (fun h => h)); have HA17 := Lib.hid (HA16.out.upd0 hu); have HS17 := Lib.hid (HS16.out.upd0 hu); have HSV17 := Lib.hid (HSV16.out.upd0 hu); have QX17 := Lib.hid (QX16.out.upd0 hu); have QY17 := Lib.hid (QY16.out.upd0 hu); have QZ17 := Lib.hid (QZ16.out.upd0 hu); have QW17 := Lib.hid (QW16.out.upd0 hu); have QE17 := Lib.hid (QE16.out.upd0 hu); have QP17 := Lib.hid (QP16.out.upd0 hu); have QR17 := Lib.hid (QR16.out.upd0 hu); have QA17 := Lib.hid (QA16.out.upd0 hu); have QM17 := Lib.hid (QM16.out.upd0 hu); have Q617 := Lib.hid (Q616.out.upd0 hu); have Q717 := Lib.hid (Q716.out.upd0 hu); have Q817 := Lib.hid (Q816.out.upd0 hu); have U17 := Lib.hid (U16.out.trans hu (fun _ h => h.elim)); have BCd0_17 : w17.cell? ⟨w.heap.size, 0, none⟩ = some (.slice A n c) := BC17.out.cell 0; have BCd1_17 : w17.cell? ⟨w.heap.size, 1, none⟩ = some (.slice M m d) := BC17.out.cell 1; have ARd0_17 : w17.cell? ⟨w.heap.size + 1, 0, none⟩ = some (.int .i64 p) := AR17.out.cell 0; have ARd1_17 : w17.cell? ⟨w.heap.size + 1, 1, none⟩ = some (.int .i64 r) := AR17.out.cell 1; have ARd2_17 : w17.cell? ⟨w.heap.size + 1, 2, none⟩ = some (.int .i64 s) := AR17.out.cell 2; have XFd0_17 : w17.cell? ⟨gf, 0, none⟩ = some (.slice A2 n' c2) := XF17.out.cell 0; have XFd1_17 : w17.cell? ⟨gf, 1, none⟩ = some (.slice M2 m' d2) := XF17.out.cell 1; have XYd0_17 : w17.cell? ⟨w4.heap.size, 0, none⟩ = some (.slice A3 n' c3) := XY17.out.cell 0; have XYd1_17 : w17.cell? ⟨w4.heap.size, 1, none⟩ = some (.slice M3 m' d3) := XY17.out.cell 1; have XOd0_17 : w17.cell? ⟨w9.heap.size, 0, none⟩ = some (.slice A5 1 c5) := XO17.out.cell 0; have XOd1_17 : w17.cell? ⟨w9.heap.size, 1, none⟩ = some (.slice M5 1 d5) := XO17.out.cell 1; clear hd hu) | (go_at_call 20; refine (lead_to HM.out HLD.out _ Q815.out).mono ?_; rintro e w16 ⟨rfl, hd⟩; have hu := Upd.of_below hd (fun _ => False); have BC16 := Lib.hid (BC15.out.upd hu (fun h => h)); have AR16 := Lib.hid (AR15.out.upd hu (fun h => h)); have XF16 := Lib.hid (XF15.out.upd hu (fun h => h)); have XY16 := Lib.hid (XY15.out.upd hu (fun h => h)); have XO16 := Lib.hid (XO15.out.upd hu (fun h => h)); have HA16 := Lib.hid (HA15.out.upd0 hu); have HS16 := Lib.hid (HS15.out.upd0 hu); have HSV16 := Lib.hid (HSV15.out.upd0 hu); have QX16 := Lib.hid (QX15.out.upd0 hu); have QY16 := Lib.hid (QY15.out.upd0 hu); have QZ16 := Lib.hid (QZ15.out.upd0 hu); have QW16 := Lib.hid (QW15.out.upd0 hu); have QE16 := Lib.hid (QE15.out.upd0 hu); have QP16 := Lib.hid (QP15.out.upd0 hu); have QR16 := Lib.hid (QR15.out.upd0 hu); have QA16 := Lib.hid (QA15.out.upd0 hu); have QM16 := Lib.hid (QM15.out.upd0 hu); have Q616 := Lib.hid (Q615.out.upd0 hu); have Q716 := Lib.hid (Q715.out.upd0 hu); have Q816 := Lib.hid (Q815.out.upd0 hu); have U16 := Lib.hid (U15.out.trans hu (fun _ h => h.elim)); have BCd0_16 : w16.cell? ⟨w.heap.size, 0, none⟩ = some (.slice A n c) := BC16.out.cell 0; have BCd1_16 : w16.cell? ⟨w.heap.size, 1, none⟩ = some (.slice M m d) := BC16.out.cell 1; have ARd0_16 : w16.cell? ⟨w.heap.size + 1, 0, none⟩ = some (.int .i64 p) := AR16.out.cell 0; have ARd1_16 : w16.cell? ⟨w.heap.size + 1, 1, none⟩ = some (.int .i64 r) := AR16.out.cell 1; have ARd2_16 : w16.cell? ⟨w.heap.size + 1, 2, none⟩ = some (.int .i64 s) := AR16.out.cell 2; have XFd0_16 : w16.cell? ⟨gf, 0, none⟩ = some (.slice A2 n' c2) := XF16.out.cell 0; have XFd1_16 : w16.cell? ⟨gf, 1, none⟩ = some (.slice M2 m' d2) := XF16.out.cell 1; have XYd0_16 : w16.cell? ⟨w4.heap.size, 0, none⟩ = some (.slice A3 n' c3) := XY16.out.cell 0; have XYd1_16 : w16.cell? ⟨w4.heap.size, 1, none⟩ = some (.slice M3 m' d3) := XY16.out.cell 1; have XOd0_16 : w16.cell? ⟨w9.heap.size, 0, none⟩ = some (.slice A5 1 c5) := XO16.out.cell 0; have XOd1_16 : w16.cell? ⟨w9.heap.size, 1, none⟩ = some (.slice M5 1 d5) := XO16.out.cell 1; clear hd hu) | (go_at_call 12; refine (made_to2 HM.out (by omega) _ HS14.out).mono ?_; rintro e w15 ⟨X8, e8, rfl, qQ8, hd⟩; have hu := Upd.of_below hd (fun _ => False); have BC15 := Lib.hid (BC14.out.upd hu (fun h => h)); have AR15 := Lib.hid (AR14.out.upd hu (fun h => h)); have XF15 := Lib.hid (XF14.out.upd hu (fun h => h)); have XY15 := Lib.hid (XY14.out.upd hu (fun h => h)); have XO15 := Lib.hid (XO14.out.upd hu (fun h => h)); have HA15 := Lib.hid (HA14.out.upd0 hu); have HS15 := Lib.hid (HS14.out.upd0 hu); have HSV15 := Lib.hid (HSV14.out.upd0 hu); have QX15 := Lib.hid (QX14.out.upd0 hu); have QY15 := Lib.hid (QY14.out.upd0 hu); have QZ15 := Lib.hid (QZ14.out.upd0 hu); have QW15 := Lib.hid (QW14.out.upd0 hu); have QE15 := Lib.hid (QE14.out.upd0 hu); have QP15 := Lib.hid (QP14.out.upd0 hu); have QR15 := Lib.hid (QR14.out.upd0 hu); have QA15 := Lib.hid (QA14.out.upd0 hu); have QM15 := Lib.hid (QM14.out.upd0 hu); have Q615 := Lib.hid (Q614.out.upd0 hu); have Q715 := Lib.hid (Q714.out.upd0 hu); have Q815 := Lib.hid qQ8; clear qQ8; have U15 := Lib.hid (U14.out.trans hu (fun _ h => h.elim)); have BCd0_15 : w15.cell? ⟨w.heap.size, 0, none⟩ = some (.slice A n c) := BC15.out.cell 0; have BCd1_15 : w15.cell? ⟨w.heap.size, 1, none⟩ = some (.slice M m d) := BC15.out.cell 1; have ARd0_15 : w15.cell? ⟨w.heap.size + 1, 0, none⟩ = some (.int .i64 p) := AR15.out.cell 0; have ARd1_15 : w15.cell? ⟨w.heap.size + 1, 1, none⟩ = some (.int .i64 r) := AR15.out.cell 1; have ARd2_15 : w15.cell? ⟨w.heap.size + 1, 2, none⟩ = some (.int .i64 s) := AR15.out.cell 2; have XFd0_15 : w15.cell? ⟨gf, 0, none⟩ = some (.slice A2 n' c2) := XF15.out.cell 0; have XFd1_15 : w15.cell? ⟨gf, 1, none⟩ = some (.slice M2 m' d2) := XF15.out.cell 1; have XYd0_15 : w15.cell? ⟨w4.heap.size, 0, none⟩ = some (.slice A3 n' c3) := XY15.out.cell 0; have XYd1_15 : w15.cell? ⟨w4.heap.size, 1, none⟩ = some (.slice M3 m' d3) := XY15.out.cell 1; have XOd0_15 : w15.cell? ⟨w9.heap.size, 0, none⟩ = some (.slice A5 1 c5) := XO15.out.cell 0; have XOd1_15 : w15.cell? ⟨w9.heap.size, 1, none⟩ = some (.slice M5 1 d5) := XO15.out.cell 1; clear hd hu) | (go_at_call 19; refine (full_to (f := true) hfd (by omega) _).mono ?_; rintro e w14 ⟨rfl, hd⟩; have hu := Upd.of_below hd (fun _ => False); have BC14 := Lib.hid (BC13.out.upd hu (fun h => h)); have AR14 := Lib.hid (AR13.out.upd hu (fun h => h)); have XF14 := Lib.hid (XF13.out.upd hu (fun h => h)); have XY14 := Lib.hid (XY13.out.upd hu (fun h => h)); have XO14 := Lib.hid (XO13.out.upd hu (fun h => h)); have HA14 := Lib.hid (HA13.out.upd0 hu); have HS14 := Lib.hid (HS13.out.upd0 hu); have HSV14 := Lib.hid (HSV13.out.upd0 hu); have QX14 := Lib.hid (QX13.out.upd0 hu); have QY14 := Lib.hid (QY13.out.upd0 hu); have QZ14 := Lib.hid (QZ13.out.upd0 hu); have QW14 := Lib.hid (QW13.out.upd0 hu); have QE14 := Lib.hid (QE13.out.upd0 hu); have QP14 := Lib.hid (QP13.out.upd0 hu); have QR14 := Lib.hid (QR13.out.upd0 hu); have QA14 := Lib.hid (QA13.out.upd0 hu); have QM14 := Lib.hid (QM13.out.upd0 hu); have Q614 := Lib.hid (Q613.out.upd0 hu); have Q714 := Lib.hid (Q713.out.upd0 hu); have U14 := Lib.hid (U13.out.trans hu (fun _ h => h.elim)); have BCd0_14 : w14.cell? ⟨w.heap.size, 0, none⟩ = some (.slice A n c) := BC14.out.cell 0; have BCd1_14 : w14.cell? ⟨w.heap.size, 1, none⟩ = some (.slice M m d) := BC14.out.cell 1; have ARd0_14 : w14.cell? ⟨w.heap.size + 1, 0, none⟩ = some (.int .i64 p) := AR14.out.cell 0; have ARd1_14 : w14.cell? ⟨w.heap.size + 1, 1, none⟩ = some (.int .i64 r) := AR14.out.cell 1; have ARd2_14 : w14.cell? ⟨w.heap.size + 1, 2, none⟩ = some (.int .i64 s) := AR14.out.cell 2; have XFd0_14 : w14.cell? ⟨gf, 0, none⟩ = some (.slice A2 n' c2) := XF14.out.cell 0; have XFd1_14 : w14.cell? ⟨gf, 1, none⟩ = some (.slice M2 m' d2) := XF14.out.cell 1; have XYd0_14 : w14.cell? ⟨w4.heap.size, 0, none⟩ = some (.slice A3 n' c3) := XY14.out.cell 0; have XYd1_14 : w14.cell? ⟨w4.heap.size, 1, none⟩ = some (.slice M3 m' d3) := XY14.out.cell 1; have XOd0_14 : w14.cell? ⟨w9.heap.size, 0, none⟩ = some (.slice A5 1 c5) := XO14.out.cell 0; have XOd1_14 : w14.cell? ⟨w9.heap.size, 1, none⟩ = some (.slice M5 1 d5) := XO14.out.cell 1; clear hd hu) | (go_at_call 12; refine (made_to2 HM.out (by omega) _ HS12.out).mono ?_; rintro e w13 ⟨X7, e7, rfl, qQ7, hd⟩; have hu := Upd.of_below hd (fun _ => False); have BC13 := Lib.hid (BC12.out.upd hu (fun h => h)); have AR13 := Lib.hid (AR12.out.upd hu (fun h => h)); have XF13 := Lib.hid (XF12.out.upd hu (fun h => h)); have XY13 := Lib.hid (XY12.out.upd hu (fun h => h)); have XO13 := Lib.hid (XO12.out.upd hu (fun h => h)); have HA13 := Lib.hid (HA12.out.upd0 hu); have HS13 := Lib.hid (HS12.out.upd0 hu); have HSV13 := Lib.hid (HSV12.out.upd0 hu); have QX13 := Lib.hid (QX12.out.upd0 hu); have QY13 := Lib.hid (QY12.out.upd0 hu); have QZ13 := Lib.hid (QZ12.out.upd0 hu); have QW13 := Lib.hid (QW12.out.upd0 hu); have QE13 := Lib.hid (QE12.out.upd0 hu); have QP13 := Lib.hid (QP12.out.upd0 hu); have QR13 := Lib.hid (QR12.out.upd0 hu); have QA13 := Lib.hid (QA12.out.upd0 hu); have QM13 := Lib.hid (QM12.out.upd0 hu); have Q613 := Lib.hid (Q612.out.upd0 hu); have Q713 := Lib.hid qQ7; clear qQ7; have U13 := Lib.hid (U12.out.trans hu (fun _ h => h.elim)); have BCd0_13 : w13.cell? ⟨w.heap.size, 0, none⟩ = some (.slice A n c) := BC13.out.cell 0; have BCd1_13 : w13.cell? ⟨w.heap.size, 1, none⟩ = some (.slice M m d) := BC13.out.cell 1; have ARd0_13 : w13.cell? ⟨w.heap.size + 1, 0, none⟩ = some (.int .i64 p) := AR13.out.cell 0; have ARd1_13 : w13.cell? ⟨w.heap.size + 1, 1, none⟩ = some (.int .i64 r) := AR13.out.cell 1; have ARd2_13 : w13.cell? ⟨w.heap.size + 1, 2, none⟩ = some (.int .i64 s) := AR13.out.cell 2; have XFd0_13 : w13.cell? ⟨gf, 0, none⟩ = some (.slice A2 n' c2) := XF13.out.cell 0; have XFd1_13 : w13.cell? ⟨gf, 1, none⟩ = some (.slice M2 m' d2) := XF13.out.cell 1; have XYd0_13 : w13.cell? ⟨w4.heap.size, 0, none⟩ = some (.slice A3 n' c3) := XY13.out.cell 0; have XYd1_13 : w13.cell? ⟨w4.heap.size, 1, none⟩ = some (.slice M3 m' d3) := XY13.out.cell 1; have XOd0_13 : w13.cell? ⟨w9.heap.size, 0, none⟩ = some (.slice A5 1 c5) := XO13.out.cell 0; have XOd1_13 : w13.cell? ⟨w9.heap.size, 1, none⟩ = some (.slice M5 1 d5) := XO13.out.cell 1; clear hd hu) | (go_at_call 17; refine (same_to HNN.out HMM.out (by omega) (by omega) _ QX11.out Q611.out QZ11.out QW11.out).mono ?_; rintro e w12 ⟨rfl, hd⟩; have hu := Upd.of_below hd (fun _ => False); have BC12 := Lib.hid (BC11.out.upd hu (fun h => h)); have AR12 := Lib.hid (AR11.out.upd hu (fun h => h)); have XF12 := Lib.hid (XF11.out.upd hu (fun h => h)); have XY12 := Lib.hid (XY11.out.upd hu (fun h => h)); have XO12 := Lib.hid (XO11.out.upd hu (fun h => h)); have HA12 := Lib.hid (HA11.out.upd0 hu); have HS12 := Lib.hid (HS11.out.upd0 hu); have HSV12 := Lib.hid (HSV11.out.upd0 hu); have QX12 := Lib.hid (QX11.out.upd0 hu); have QY12 := Lib.hid (QY11.out.upd0 hu); have QZ12 := Lib.hid (QZ11.out.upd0 hu); have QW12 := Lib.hid (QW11.out.upd0 hu); have QE12 := Lib.hid (QE11.out.upd0 hu); have QP12 := Lib.hid (QP11.out.upd0 hu); have QR12 := Lib.hid (QR11.out.upd0 hu); have QA12 := Lib.hid (QA11.out.upd0 hu); have QM12 := Lib.hid (QM11.out.upd0 hu); have Q612 := Lib.hid (Q611.out.upd0 hu); have U12 := Lib.hid (U11.out.trans hu (fun _ h => h.elim)); have BCd0_12 : w12.cell? ⟨w.heap.size, 0, none⟩ = some (.slice A n c) := BC12.out.cell 0; have BCd1_12 : w12.cell? ⟨w.heap.size, 1, none⟩ = some (.slice M m d) := BC12.out.cell 1; have ARd0_12 : w12.cell? ⟨w.heap.size + 1, 0, none⟩ = some (.int .i64 p) := AR12.out.cell 0; have ARd1_12 : w12.cell? ⟨w.heap.size + 1, 1, none⟩ = some (.int .i64 r) := AR12.out.cell 1; have ARd2_12 : w12.cell? ⟨w.heap.size + 1, 2, none⟩ = some (.int .i64 s) := AR12.out.cell 2; have XFd0_12 : w12.cell? ⟨gf, 0, none⟩ = some (.slice A2 n' c2) := XF12.out.cell 0; have XFd1_12 : w12.cell? ⟨gf, 1, none⟩ = some (.slice M2 m' d2) := XF12.out.cell 1; have XYd0_12 : w12.cell? ⟨w4.heap.size, 0, none⟩ = some (.slice A3 n' c3) := XY12.out.cell 0; have XYd1_12 : w12.cell? ⟨w4.heap.size, 1, none⟩ = some (.slice M3 m' d3) := XY12.out.cell 1; have XOd0_12 : w12.cell? ⟨w9.heap.size, 0, none⟩ = some (.slice A5 1 c5) := XO12.out.cell 0; have XOd1_12 : w12.cell? ⟨w9.heap.size, 1, none⟩ = some (.slice M5 1 d5) := XO12.out.cell 1; clear hd hu) | (go_at_call 18; refine (real_to3 HMM.out (by omega) _ QY10.out.drew).mono ?_; rintro e w11 ⟨M6, d6, rfl, qQ6, hd⟩; have hu := Upd.of_below hd (fun _ => False); have BC11 := Lib.hid (BC10.out.drew.upd hu (fun h => h)); have AR11 := Lib.hid (AR10.out.drew.upd hu (fun h => h)); have XF11 := Lib.hid (XF10.out.drew.upd hu (fun h => h)); have XY11 := Lib.hid (XY10.out.drew.upd hu (fun h => h)); have XO11 := Lib.hid (XO10.out.drew.upd hu (fun h => h)); have HA11 := Lib.hid (HA10.out.drew.upd0 hu); have HS11 := Lib.hid (HS10.out.drew.upd0 hu); have HSV11 := Lib.hid (HSV10.out.drew.upd0 hu); have QX11 := Lib.hid (QX10.out.drew.upd0 hu); have QY11 := Lib.hid (QY10.out.drew.upd0 hu); have QZ11 := Lib.hid (QZ10.out.drew.upd0 hu); have QW11 := Lib.hid (QW10.out.drew.upd0 hu); have QE11 := Lib.hid (QE10.out.drew.upd0 hu); have QP11 := Lib.hid (QP10.out.drew.upd0 hu); have QR11 := Lib.hid (QR10.out.drew.upd0 hu); have QA11 := Lib.hid (QA10.out.drew.upd0 hu); have QM11 := Lib.hid (QM10.out.drew.upd0 hu); have Q611 := Lib.hid qQ6; clear qQ6; have U11 := Lib.hid (U10.out.drew.trans hu (fun _ h => h.elim)); have BCd0_11 : w11.cell? ⟨w.heap.size, 0, none⟩ = some (.slice A n c) := BC11.out.cell 0; have BCd1_11 : w11.cell? ⟨w.heap.size, 1, none⟩ = some (.slice M m d) := BC11.out.cell 1; have ARd0_11 : w11.cell? ⟨w.heap.size + 1, 0, none⟩ = some (.int .i64 p) := AR11.out.cell 0; have ARd1_11 : w11.cell? ⟨w.heap.size + 1, 1, none⟩ = some (.int .i64 r) := AR11.out.cell 1; have ARd2_11 : w11.cell? ⟨w.heap.size + 1, 2, none⟩ = some (.int .i64 s) := AR11.out.cell 2; have XFd0_11 : w11.cell? ⟨gf, 0, none⟩ = some (.slice A2 n' c2) := XF11.out.cell 0; have XFd1_11 : w11.cell? ⟨gf, 1, none⟩ = some (.slice M2 m' d2) := XF11.out.cell 1; have XYd0_11 : w11.cell? ⟨w4.heap.size, 0, none⟩ = some (.slice A3 n' c3) := XY11.out.cell 0; have XYd1_11 : w11.cell? ⟨w4.heap.size, 1, none⟩ = some (.slice M3 m' d3) := XY11.out.cell 1; have XOd0_11 : w11.cell? ⟨w9.heap.size, 0, none⟩ = some (.slice A5 1 c5) := XO11.out.cell 0; have XOd1_11 : w11.cell? ⟨w9.heap.size, 1, none⟩ = some (.slice M5 1 d5) := XO11.out.cell 1; clear hd hu))
              go_wp2
              go_ret
              exact ⟨rfl, U20.out.below0⟩
            · have hfd : decide ((n : Int) ≥ s) = false := by simpa using hfull
              have BCc0 : w10.cell? ⟨w.heap.size, 0, none⟩ = some (.slice A n c) := BC10.out.cell 0
              have BCc1 : w10.cell? ⟨w.heap.size, 1, none⟩ = some (.slice M m d) := BC10.out.cell 1
              have BCl : w.heap.size < w10.heap.size := BC10.out.lt
              have ARc0 : w10.cell? ⟨w.heap.size + 1, 0, none⟩ = some (.int .i64 p) := AR10.out.cell 0
              have ARc1 : w10.cell? ⟨w.heap.size + 1, 1, none⟩ = some (.int .i64 r) := AR10.out.cell 1
              have ARc2 : w10.cell? ⟨w.heap.size + 1, 2, none⟩ = some (.int .i64 s) := AR10.out.cell 2
              have ARl : w.heap.size + 1 < w10.heap.size := AR10.out.lt
              have XFc0 : w10.cell? ⟨gf, 0, none⟩ = some (.slice A2 n' c2) := XF10.out.cell 0
              have XFc1 : w10.cell? ⟨gf, 1, none⟩ = some (.slice M2 m' d2) := XF10.out.cell 1
              have XFl : gf < w10.heap.size := XF10.out.lt
              have XYc0 : w10.cell? ⟨w4.heap.size, 0, none⟩ = some (.slice A3 n' c3) := XY10.out.cell 0
              have XYc1 : w10.cell? ⟨w4.heap.size, 1, none⟩ = some (.slice M3 m' d3) := XY10.out.cell 1
              have XYl : w4.heap.size < w10.heap.size := XY10.out.lt
              have XOc0 : w10.cell? ⟨w9.heap.size, 0, none⟩ = some (.slice A5 1 c5) := XO10.out.cell 0
              have XOc1 : w10.cell? ⟨w9.heap.size, 1, none⟩ = some (.slice M5 1 d5) := XO10.out.cell 1
              have XOl : w9.heap.size < w10.heap.size := XO10.out.lt
              go_region_held3 (fun w' => w'.cell? ⟨w.heap.size, 0, none⟩ = some (.slice A n c) ∧ w'.cell? ⟨w.heap.size, 1, none⟩ = some (.slice M m d) ∧ w'.cell? ⟨w.heap.size + 1, 0, none⟩ = some (.int .i64 p) ∧ w'.cell? ⟨w.heap.size + 1, 1, none⟩ = some (.int .i64 r) ∧ w'.cell? ⟨w.heap.size + 1, 2, none⟩ = some (.int .i64 s) ∧ w'.cell? ⟨gf, 0, none⟩ = some (.slice A2 n' c2) ∧ w'.cell? ⟨gf, 1, none⟩ = some (.slice M2 m' d2) ∧ w'.cell? ⟨w4.heap.size, 0, none⟩ = some (.slice A3 n' c3) ∧ w'.cell? ⟨w4.heap.size, 1, none⟩ = some (.slice M3 m' d3) ∧ w'.cell? ⟨w9.heap.size, 0, none⟩ = some (.slice A5 1 c5) ∧ w'.cell? ⟨w9.heap.size, 1, none⟩ = some (.slice M5 1 d5)) (go_keep) (first | (go_at_call 17; refine (same_to (n := 1) (m := 1) (xs := [r]) (ms := [(p, 0)]) rfl rfl (by omega) (by omega) _ QA19.out Q919.out Qa19.out Qb19.out).mono ?_; rintro e w20 ⟨rfl, hd⟩; have hu := Upd.of_below hd (fun _ => False); have BC20 := Lib.hid (BC19.out.upd hu (fun h => h)); have AR20 := Lib.hid (AR19.out.upd hu (fun h => h)); have XF20 := Lib.hid (XF19.out.upd hu (fun h => h)); have XY20 := Lib.hid (XY19.out.upd hu (fun h => h)); have XO20 := Lib.hid (XO19.out.upd hu (fun h => h)); have HA20 := Lib.hid (HA19.out.upd0 hu); have HS20 := Lib.hid (HS19.out.upd0 hu); have HSV20 := Lib.hid (HSV19.out.upd0 hu); have QX20 := Lib.hid (QX19.out.upd0 hu); have QY20 := Lib.hid (QY19.out.upd0 hu); have QZ20 := Lib.hid (QZ19.out.upd0 hu); have QW20 := Lib.hid (QW19.out.upd0 hu); have QE20 := Lib.hid (QE19.out.upd0 hu); have QP20 := Lib.hid (QP19.out.upd0 hu); have QR20 := Lib.hid (QR19.out.upd0 hu); have QA20 := Lib.hid (QA19.out.upd0 hu); have QM20 := Lib.hid (QM19.out.upd0 hu); have Q620 := Lib.hid (Q619.out.upd0 hu); have Q720 := Lib.hid (Q719.out.upd0 hu); have Q820 := Lib.hid (Q819.out.upd0 hu); have Q920 := Lib.hid (Q919.out.upd0 hu); have Qa20 := Lib.hid (Qa19.out.upd0 hu); have Qb20 := Lib.hid (Qb19.out.upd0 hu); have U20 := Lib.hid (U19.out.trans hu (fun _ h => h.elim)); have BCd0_20 : w20.cell? ⟨w.heap.size, 0, none⟩ = some (.slice A n c) := BC20.out.cell 0; have BCd1_20 : w20.cell? ⟨w.heap.size, 1, none⟩ = some (.slice M m d) := BC20.out.cell 1; have ARd0_20 : w20.cell? ⟨w.heap.size + 1, 0, none⟩ = some (.int .i64 p) := AR20.out.cell 0; have ARd1_20 : w20.cell? ⟨w.heap.size + 1, 1, none⟩ = some (.int .i64 r) := AR20.out.cell 1; have ARd2_20 : w20.cell? ⟨w.heap.size + 1, 2, none⟩ = some (.int .i64 s) := AR20.out.cell 2; have XFd0_20 : w20.cell? ⟨gf, 0, none⟩ = some (.slice A2 n' c2) := XF20.out.cell 0; have XFd1_20 : w20.cell? ⟨gf, 1, none⟩ = some (.slice M2 m' d2) := XF20.out.cell 1; have XYd0_20 : w20.cell? ⟨w4.heap.size, 0, none⟩ = some (.slice A3 n' c3) := XY20.out.cell 0; have XYd1_20 : w20.cell? ⟨w4.heap.size, 1, none⟩ = some (.slice M3 m' d3) := XY20.out.cell 1; have XOd0_20 : w20.cell? ⟨w9.heap.size, 0, none⟩ = some (.slice A5 1 c5) := XO20.out.cell 0; have XOd1_20 : w20.cell? ⟨w9.heap.size, 1, none⟩ = some (.slice M5 1 d5) := XO20.out.cell 1; clear hd hu) | (go_at_call 22; refine (rone_any p r _).mono ?_; rintro e w19 ⟨Aa, ca, Ma, da, rfl, qQa, qQb, hd⟩; have hu := Upd.of_below hd (fun _ => False); have BC19 := Lib.hid (BC18.out.upd hu (fun h => h)); have AR19 := Lib.hid (AR18.out.upd hu (fun h => h)); have XF19 := Lib.hid (XF18.out.upd hu (fun h => h)); have XY19 := Lib.hid (XY18.out.upd hu (fun h => h)); have XO19 := Lib.hid (XO18.out.upd hu (fun h => h)); have HA19 := Lib.hid (HA18.out.upd0 hu); have HS19 := Lib.hid (HS18.out.upd0 hu); have HSV19 := Lib.hid (HSV18.out.upd0 hu); have QX19 := Lib.hid (QX18.out.upd0 hu); have QY19 := Lib.hid (QY18.out.upd0 hu); have QZ19 := Lib.hid (QZ18.out.upd0 hu); have QW19 := Lib.hid (QW18.out.upd0 hu); have QE19 := Lib.hid (QE18.out.upd0 hu); have QP19 := Lib.hid (QP18.out.upd0 hu); have QR19 := Lib.hid (QR18.out.upd0 hu); have QA19 := Lib.hid (QA18.out.upd0 hu); have QM19 := Lib.hid (QM18.out.upd0 hu); have Q619 := Lib.hid (Q618.out.upd0 hu); have Q719 := Lib.hid (Q718.out.upd0 hu); have Q819 := Lib.hid (Q818.out.upd0 hu); have Q919 := Lib.hid (Q918.out.upd0 hu); have Qa19 := Lib.hid qQa; clear qQa; have Qb19 := Lib.hid qQb; clear qQb; have U19 := Lib.hid (U18.out.trans hu (fun _ h => h.elim)); have BCd0_19 : w19.cell? ⟨w.heap.size, 0, none⟩ = some (.slice A n c) := BC19.out.cell 0; have BCd1_19 : w19.cell? ⟨w.heap.size, 1, none⟩ = some (.slice M m d) := BC19.out.cell 1; have ARd0_19 : w19.cell? ⟨w.heap.size + 1, 0, none⟩ = some (.int .i64 p) := AR19.out.cell 0; have ARd1_19 : w19.cell? ⟨w.heap.size + 1, 1, none⟩ = some (.int .i64 r) := AR19.out.cell 1; have ARd2_19 : w19.cell? ⟨w.heap.size + 1, 2, none⟩ = some (.int .i64 s) := AR19.out.cell 2; have XFd0_19 : w19.cell? ⟨gf, 0, none⟩ = some (.slice A2 n' c2) := XF19.out.cell 0; have XFd1_19 : w19.cell? ⟨gf, 1, none⟩ = some (.slice M2 m' d2) := XF19.out.cell 1; have XYd0_19 : w19.cell? ⟨w4.heap.size, 0, none⟩ = some (.slice A3 n' c3) := XY19.out.cell 0; have XYd1_19 : w19.cell? ⟨w4.heap.size, 1, none⟩ = some (.slice M3 m' d3) := XY19.out.cell 1; have XOd0_19 : w19.cell? ⟨w9.heap.size, 0, none⟩ = some (.slice A5 1 c5) := XO19.out.cell 0; have XOd1_19 : w19.cell? ⟨w9.heap.size, 1, none⟩ = some (.slice M5 1 d5) := XO19.out.cell 1; clear hd hu) | (go_at_call 18; refine (real_to3 (n := 1) (m := 1) (ms := [(p, 0)]) rfl (by omega) _ QM17.out).mono ?_; rintro e w18 ⟨M9, d9, rfl, qQ9, hd⟩; have hu := Upd.of_below hd (fun _ => False); have BC18 := Lib.hid (BC17.out.upd hu (fun h => h)); have AR18 := Lib.hid (AR17.out.upd hu (fun h => h)); have XF18 := Lib.hid (XF17.out.upd hu (fun h => h)); have XY18 := Lib.hid (XY17.out.upd hu (fun h => h)); have XO18 := Lib.hid (XO17.out.upd hu (fun h => h)); have HA18 := Lib.hid (HA17.out.upd0 hu); have HS18 := Lib.hid (HS17.out.upd0 hu); have HSV18 := Lib.hid (HSV17.out.upd0 hu); have QX18 := Lib.hid (QX17.out.upd0 hu); have QY18 := Lib.hid (QY17.out.upd0 hu); have QZ18 := Lib.hid (QZ17.out.upd0 hu); have QW18 := Lib.hid (QW17.out.upd0 hu); have QE18 := Lib.hid (QE17.out.upd0 hu); have QP18 := Lib.hid (QP17.out.upd0 hu); have QR18 := Lib.hid (QR17.out.upd0 hu); have QA18 := Lib.hid (QA17.out.upd0 hu); have QM18 := Lib.hid (QM17.out.upd0 hu); have Q618 := Lib.hid (Q617.out.upd0 hu); have Q718 := Lib.hid (Q717.out.upd0 hu); have Q818 := Lib.hid (Q817.out.upd0 hu); have Q918 := Lib.hid qQ9; clear qQ9; have U18 := Lib.hid (U17.out.trans hu (fun _ h => h.elim)); have BCd0_18 : w18.cell? ⟨w.heap.size, 0, none⟩ = some (.slice A n c) := BC18.out.cell 0; have BCd1_18 : w18.cell? ⟨w.heap.size, 1, none⟩ = some (.slice M m d) := BC18.out.cell 1; have ARd0_18 : w18.cell? ⟨w.heap.size + 1, 0, none⟩ = some (.int .i64 p) := AR18.out.cell 0; have ARd1_18 : w18.cell? ⟨w.heap.size + 1, 1, none⟩ = some (.int .i64 r) := AR18.out.cell 1; have ARd2_18 : w18.cell? ⟨w.heap.size + 1, 2, none⟩ = some (.int .i64 s) := AR18.out.cell 2; have XFd0_18 : w18.cell? ⟨gf, 0, none⟩ = some (.slice A2 n' c2) := XF18.out.cell 0; have XFd1_18 : w18.cell? ⟨gf, 1, none⟩ = some (.slice M2 m' d2) := XF18.out.cell 1; have XYd0_18 : w18.cell? ⟨w4.heap.size, 0, none⟩ = some (.slice A3 n' c3) := XY18.out.cell 0; have XYd1_18 : w18.cell? ⟨w4.heap.size, 1, none⟩ = some (.slice M3 m' d3) := XY18.out.cell 1; have XOd0_18 : w18.cell? ⟨w9.heap.size, 0, none⟩ = some (.slice A5 1 c5) := XO18.out.cell 0; have XOd1_18 : w18.cell? ⟨w9.heap.size, 1, none⟩ = some (.slice M5 1 d5) := XO18.out.cell 1; clear hd hu) | (go_at_call 21; refine (rlead_to HM.out HLD.out _ HS16.out).mono ?_; rintro e w17 ⟨rfl, hd⟩; have hu := Upd.of_below hd (fun _ => False); have BC17 := Lib.hid (BC16.out.upd hu (fun h => h)); have AR17 := Lib.hid (AR16.out.upd hu (fun h => h)); have XF17 := Lib.hid (XF16.out.upd hu (fun h => h)); have XY17 := Lib.hid (XY16.out.upd hu (fun h => h)); have XO17 := Lib.hid (XO16.out.upd hu (fun h => h)); have HA17 := Lib.hid (HA16.out.upd0 hu); have HS17 := Lib.hid (HS16.out.upd0 hu); have HSV17 := Lib.hid (HSV16.out.upd0 hu); have QX17 := Lib.hid (QX16.out.upd0 hu); have QY17 := Lib.hid (QY16.out.upd0 hu); have QZ17 := Lib.hid (QZ16.out.upd0 hu); have QW17 := Lib.hid (QW16.out.upd0 hu); have QE17 := Lib.hid (QE16.out.upd0 hu); have QP17 := Lib.hid (QP16.out.upd0 hu); have QR17 := Lib.hid (QR16.out.upd0 hu); have QA17 := Lib.hid (QA16.out.upd0 hu); have QM17 := Lib.hid (QM16.out.upd0 hu); have Q617 := Lib.hid (Q616.out.upd0 hu); have Q717 := Lib.hid (Q716.out.upd0 hu); have Q817 := Lib.hid (Q816.out.upd0 hu); have U17 := Lib.hid (U16.out.trans hu (fun _ h => h.elim)); have BCd0_17 : w17.cell? ⟨w.heap.size, 0, none⟩ = some (.slice A n c) := BC17.out.cell 0; have BCd1_17 : w17.cell? ⟨w.heap.size, 1, none⟩ = some (.slice M m d) := BC17.out.cell 1; have ARd0_17 : w17.cell? ⟨w.heap.size + 1, 0, none⟩ = some (.int .i64 p) := AR17.out.cell 0; have ARd1_17 : w17.cell? ⟨w.heap.size + 1, 1, none⟩ = some (.int .i64 r) := AR17.out.cell 1; have ARd2_17 : w17.cell? ⟨w.heap.size + 1, 2, none⟩ = some (.int .i64 s) := AR17.out.cell 2; have XFd0_17 : w17.cell? ⟨gf, 0, none⟩ = some (.slice A2 n' c2) := XF17.out.cell 0; have XFd1_17 : w17.cell? ⟨gf, 1, none⟩ = some (.slice M2 m' d2) := XF17.out.cell 1; have XYd0_17 : w17.cell? ⟨w4.heap.size, 0, none⟩ = some (.slice A3 n' c3) := XY17.out.cell 0; have XYd1_17 : w17.cell? ⟨w4.heap.size, 1, none⟩ = some (.slice M3 m' d3) := XY17.out.cell 1; have XOd0_17 : w17.cell? ⟨w9.heap.size, 0, none⟩ = some (.slice A5 1 c5) := XO17.out.cell 0; have XOd1_17 : w17.cell? ⟨w9.heap.size, 1, none⟩ = some (.slice M5 1 d5) := XO17.out.cell 1; clear hd hu) | (go_at_call 20; refine (lead_to HM.out HLD.out _ Q815.out).mono ?_; rintro e w16 ⟨rfl, hd⟩; have hu := Upd.of_below hd (fun _ => False); have BC16 := Lib.hid (BC15.out.upd hu (fun h => h)); have AR16 := Lib.hid (AR15.out.upd hu (fun h => h)); have XF16 := Lib.hid (XF15.out.upd hu (fun h => h)); have XY16 := Lib.hid (XY15.out.upd hu (fun h => h)); have XO16 := Lib.hid (XO15.out.upd hu (fun h => h)); have HA16 := Lib.hid (HA15.out.upd0 hu); have HS16 := Lib.hid (HS15.out.upd0 hu); have HSV16 := Lib.hid (HSV15.out.upd0 hu); have QX16 := Lib.hid (QX15.out.upd0 hu); have QY16 := Lib.hid (QY15.out.upd0 hu); have QZ16 := Lib.hid (QZ15.out.upd0 hu); have QW16 := Lib.hid (QW15.out.upd0 hu); have QE16 := Lib.hid (QE15.out.upd0 hu); have QP16 := Lib.hid (QP15.out.upd0 hu); have QR16 := Lib.hid (QR15.out.upd0 hu); have QA16 := Lib.hid (QA15.out.upd0 hu); have QM16 := Lib.hid (QM15.out.upd0 hu); have Q616 := Lib.hid (Q615.out.upd0 hu); have Q716 := Lib.hid (Q715.out.upd0 hu); have Q816 := Lib.hid (Q815.out.upd0 hu); have U16 := Lib.hid (U15.out.trans hu (fun _ h => h.elim)); have BCd0_16 : w16.cell? ⟨w.heap.size, 0, none⟩ = some (.slice A n c) := BC16.out.cell 0; have BCd1_16 : w16.cell? ⟨w.heap.size, 1, none⟩ = some (.slice M m d) := BC16.out.cell 1; have ARd0_16 : w16.cell? ⟨w.heap.size + 1, 0, none⟩ = some (.int .i64 p) := AR16.out.cell 0; have ARd1_16 : w16.cell? ⟨w.heap.size + 1, 1, none⟩ = some (.int .i64 r) := AR16.out.cell 1; have ARd2_16 : w16.cell? ⟨w.heap.size + 1, 2, none⟩ = some (.int .i64 s) := AR16.out.cell 2; have XFd0_16 : w16.cell? ⟨gf, 0, none⟩ = some (.slice A2 n' c2) := XF16.out.cell 0; have XFd1_16 : w16.cell? ⟨gf, 1, none⟩ = some (.slice M2 m' d2) := XF16.out.cell 1; have XYd0_16 : w16.cell? ⟨w4.heap.size, 0, none⟩ = some (.slice A3 n' c3) := XY16.out.cell 0; have XYd1_16 : w16.cell? ⟨w4.heap.size, 1, none⟩ = some (.slice M3 m' d3) := XY16.out.cell 1; have XOd0_16 : w16.cell? ⟨w9.heap.size, 0, none⟩ = some (.slice A5 1 c5) := XO16.out.cell 0; have XOd1_16 : w16.cell? ⟨w9.heap.size, 1, none⟩ = some (.slice M5 1 d5) := XO16.out.cell 1; clear hd hu) | (go_at_call 12; refine (made_to2 HM.out (by omega) _ HS14.out).mono ?_; rintro e w15 ⟨X8, e8, rfl, qQ8, hd⟩; have hu := Upd.of_below hd (fun _ => False); have BC15 := Lib.hid (BC14.out.upd hu (fun h => h)); have AR15 := Lib.hid (AR14.out.upd hu (fun h => h)); have XF15 := Lib.hid (XF14.out.upd hu (fun h => h)); have XY15 := Lib.hid (XY14.out.upd hu (fun h => h)); have XO15 := Lib.hid (XO14.out.upd hu (fun h => h)); have HA15 := Lib.hid (HA14.out.upd0 hu); have HS15 := Lib.hid (HS14.out.upd0 hu); have HSV15 := Lib.hid (HSV14.out.upd0 hu); have QX15 := Lib.hid (QX14.out.upd0 hu); have QY15 := Lib.hid (QY14.out.upd0 hu); have QZ15 := Lib.hid (QZ14.out.upd0 hu); have QW15 := Lib.hid (QW14.out.upd0 hu); have QE15 := Lib.hid (QE14.out.upd0 hu); have QP15 := Lib.hid (QP14.out.upd0 hu); have QR15 := Lib.hid (QR14.out.upd0 hu); have QA15 := Lib.hid (QA14.out.upd0 hu); have QM15 := Lib.hid (QM14.out.upd0 hu); have Q615 := Lib.hid (Q614.out.upd0 hu); have Q715 := Lib.hid (Q714.out.upd0 hu); have Q815 := Lib.hid qQ8; clear qQ8; have U15 := Lib.hid (U14.out.trans hu (fun _ h => h.elim)); have BCd0_15 : w15.cell? ⟨w.heap.size, 0, none⟩ = some (.slice A n c) := BC15.out.cell 0; have BCd1_15 : w15.cell? ⟨w.heap.size, 1, none⟩ = some (.slice M m d) := BC15.out.cell 1; have ARd0_15 : w15.cell? ⟨w.heap.size + 1, 0, none⟩ = some (.int .i64 p) := AR15.out.cell 0; have ARd1_15 : w15.cell? ⟨w.heap.size + 1, 1, none⟩ = some (.int .i64 r) := AR15.out.cell 1; have ARd2_15 : w15.cell? ⟨w.heap.size + 1, 2, none⟩ = some (.int .i64 s) := AR15.out.cell 2; have XFd0_15 : w15.cell? ⟨gf, 0, none⟩ = some (.slice A2 n' c2) := XF15.out.cell 0; have XFd1_15 : w15.cell? ⟨gf, 1, none⟩ = some (.slice M2 m' d2) := XF15.out.cell 1; have XYd0_15 : w15.cell? ⟨w4.heap.size, 0, none⟩ = some (.slice A3 n' c3) := XY15.out.cell 0; have XYd1_15 : w15.cell? ⟨w4.heap.size, 1, none⟩ = some (.slice M3 m' d3) := XY15.out.cell 1; have XOd0_15 : w15.cell? ⟨w9.heap.size, 0, none⟩ = some (.slice A5 1 c5) := XO15.out.cell 0; have XOd1_15 : w15.cell? ⟨w9.heap.size, 1, none⟩ = some (.slice M5 1 d5) := XO15.out.cell 1; clear hd hu) | (go_at_call 19; refine (full_to (f := false) hfd (by omega) _).mono ?_; rintro e w14 ⟨rfl, hd⟩; have hu := Upd.of_below hd (fun _ => False); have BC14 := Lib.hid (BC13.out.upd hu (fun h => h)); have AR14 := Lib.hid (AR13.out.upd hu (fun h => h)); have XF14 := Lib.hid (XF13.out.upd hu (fun h => h)); have XY14 := Lib.hid (XY13.out.upd hu (fun h => h)); have XO14 := Lib.hid (XO13.out.upd hu (fun h => h)); have HA14 := Lib.hid (HA13.out.upd0 hu); have HS14 := Lib.hid (HS13.out.upd0 hu); have HSV14 := Lib.hid (HSV13.out.upd0 hu); have QX14 := Lib.hid (QX13.out.upd0 hu); have QY14 := Lib.hid (QY13.out.upd0 hu); have QZ14 := Lib.hid (QZ13.out.upd0 hu); have QW14 := Lib.hid (QW13.out.upd0 hu); have QE14 := Lib.hid (QE13.out.upd0 hu); have QP14 := Lib.hid (QP13.out.upd0 hu); have QR14 := Lib.hid (QR13.out.upd0 hu); have QA14 := Lib.hid (QA13.out.upd0 hu); have QM14 := Lib.hid (QM13.out.upd0 hu); have Q614 := Lib.hid (Q613.out.upd0 hu); have Q714 := Lib.hid (Q713.out.upd0 hu); have U14 := Lib.hid (U13.out.trans hu (fun _ h => h.elim)); have BCd0_14 : w14.cell? ⟨w.heap.size, 0, none⟩ = some (.slice A n c) := BC14.out.cell 0; have BCd1_14 : w14.cell? ⟨w.heap.size, 1, none⟩ = some (.slice M m d) := BC14.out.cell 1; have ARd0_14 : w14.cell? ⟨w.heap.size + 1, 0, none⟩ = some (.int .i64 p) := AR14.out.cell 0; have ARd1_14 : w14.cell? ⟨w.heap.size + 1, 1, none⟩ = some (.int .i64 r) := AR14.out.cell 1; have ARd2_14 : w14.cell? ⟨w.heap.size + 1, 2, none⟩ = some (.int .i64 s) := AR14.out.cell 2; have XFd0_14 : w14.cell? ⟨gf, 0, none⟩ = some (.slice A2 n' c2) := XF14.out.cell 0; have XFd1_14 : w14.cell? ⟨gf, 1, none⟩ = some (.slice M2 m' d2) := XF14.out.cell 1; have XYd0_14 : w14.cell? ⟨w4.heap.size, 0, none⟩ = some (.slice A3 n' c3) := XY14.out.cell 0; have XYd1_14 : w14.cell? ⟨w4.heap.size, 1, none⟩ = some (.slice M3 m' d3) := XY14.out.cell 1; have XOd0_14 : w14.cell? ⟨w9.heap.size, 0, none⟩ = some (.slice A5 1 c5) := XO14.out.cell 0; have XOd1_14 : w14.cell? ⟨w9.heap.size, 1, none⟩ = some (.slice M5 1 d5) := XO14.out.cell 1; clear hd hu) | (go_at_call 12; refine (made_to2 HM.out (by omega) _ HS12.out).mono ?_; rintro e w13 ⟨X7, e7, rfl, qQ7, hd⟩; have hu := Upd.of_below hd (fun _ => False); have BC13 := Lib.hid (BC12.out.upd hu (fun h => h)); have AR13 := Lib.hid (AR12.out.upd hu (fun h => h)); have XF13 := Lib.hid (XF12.out.upd hu (fun h => h)); have XY13 := Lib.hid (XY12.out.upd hu (fun h => h)); have XO13 := Lib.hid (XO12.out.upd hu (fun h => h)); have HA13 := Lib.hid (HA12.out.upd0 hu); have HS13 := Lib.hid (HS12.out.upd0 hu); have HSV13 := Lib.hid (HSV12.out.upd0 hu); have QX13 := Lib.hid (QX12.out.upd0 hu); have QY13 := Lib.hid (QY12.out.upd0 hu); have QZ13 := Lib.hid (QZ12.out.upd0 hu); have QW13 := Lib.hid (QW12.out.upd0 hu); have QE13 := Lib.hid (QE12.out.upd0 hu); have QP13 := Lib.hid (QP12.out.upd0 hu); have QR13 := Lib.hid (QR12.out.upd0 hu); have QA13 := Lib.hid (QA12.out.upd0 hu); have QM13 := Lib.hid (QM12.out.upd0 hu); have Q613 := Lib.hid (Q612.out.upd0 hu); have Q713 := Lib.hid qQ7; clear qQ7; have U13 := Lib.hid (U12.out.trans hu (fun _ h => h.elim)); have BCd0_13 : w13.cell? ⟨w.heap.size, 0, none⟩ = some (.slice A n c) := BC13.out.cell 0; have BCd1_13 : w13.cell? ⟨w.heap.size, 1, none⟩ = some (.slice M m d) := BC13.out.cell 1; have ARd0_13 : w13.cell? ⟨w.heap.size + 1, 0, none⟩ = some (.int .i64 p) := AR13.out.cell 0; have ARd1_13 : w13.cell? ⟨w.heap.size + 1, 1, none⟩ = some (.int .i64 r) := AR13.out.cell 1; have ARd2_13 : w13.cell? ⟨w.heap.size + 1, 2, none⟩ = some (.int .i64 s) := AR13.out.cell 2; have XFd0_13 : w13.cell? ⟨gf, 0, none⟩ = some (.slice A2 n' c2) := XF13.out.cell 0; have XFd1_13 : w13.cell? ⟨gf, 1, none⟩ = some (.slice M2 m' d2) := XF13.out.cell 1; have XYd0_13 : w13.cell? ⟨w4.heap.size, 0, none⟩ = some (.slice A3 n' c3) := XY13.out.cell 0; have XYd1_13 : w13.cell? ⟨w4.heap.size, 1, none⟩ = some (.slice M3 m' d3) := XY13.out.cell 1; have XOd0_13 : w13.cell? ⟨w9.heap.size, 0, none⟩ = some (.slice A5 1 c5) := XO13.out.cell 0; have XOd1_13 : w13.cell? ⟨w9.heap.size, 1, none⟩ = some (.slice M5 1 d5) := XO13.out.cell 1; clear hd hu) | (go_at_call 17; refine (same_to HNN.out HMM.out (by omega) (by omega) _ QX11.out Q611.out QZ11.out QW11.out).mono ?_; rintro e w12 ⟨rfl, hd⟩; have hu := Upd.of_below hd (fun _ => False); have BC12 := Lib.hid (BC11.out.upd hu (fun h => h)); have AR12 := Lib.hid (AR11.out.upd hu (fun h => h)); have XF12 := Lib.hid (XF11.out.upd hu (fun h => h)); have XY12 := Lib.hid (XY11.out.upd hu (fun h => h)); have XO12 := Lib.hid (XO11.out.upd hu (fun h => h)); have HA12 := Lib.hid (HA11.out.upd0 hu); have HS12 := Lib.hid (HS11.out.upd0 hu); have HSV12 := Lib.hid (HSV11.out.upd0 hu); have QX12 := Lib.hid (QX11.out.upd0 hu); have QY12 := Lib.hid (QY11.out.upd0 hu); have QZ12 := Lib.hid (QZ11.out.upd0 hu); have QW12 := Lib.hid (QW11.out.upd0 hu); have QE12 := Lib.hid (QE11.out.upd0 hu); have QP12 := Lib.hid (QP11.out.upd0 hu); have QR12 := Lib.hid (QR11.out.upd0 hu); have QA12 := Lib.hid (QA11.out.upd0 hu); have QM12 := Lib.hid (QM11.out.upd0 hu); have Q612 := Lib.hid (Q611.out.upd0 hu); have U12 := Lib.hid (U11.out.trans hu (fun _ h => h.elim)); have BCd0_12 : w12.cell? ⟨w.heap.size, 0, none⟩ = some (.slice A n c) := BC12.out.cell 0; have BCd1_12 : w12.cell? ⟨w.heap.size, 1, none⟩ = some (.slice M m d) := BC12.out.cell 1; have ARd0_12 : w12.cell? ⟨w.heap.size + 1, 0, none⟩ = some (.int .i64 p) := AR12.out.cell 0; have ARd1_12 : w12.cell? ⟨w.heap.size + 1, 1, none⟩ = some (.int .i64 r) := AR12.out.cell 1; have ARd2_12 : w12.cell? ⟨w.heap.size + 1, 2, none⟩ = some (.int .i64 s) := AR12.out.cell 2; have XFd0_12 : w12.cell? ⟨gf, 0, none⟩ = some (.slice A2 n' c2) := XF12.out.cell 0; have XFd1_12 : w12.cell? ⟨gf, 1, none⟩ = some (.slice M2 m' d2) := XF12.out.cell 1; have XYd0_12 : w12.cell? ⟨w4.heap.size, 0, none⟩ = some (.slice A3 n' c3) := XY12.out.cell 0; have XYd1_12 : w12.cell? ⟨w4.heap.size, 1, none⟩ = some (.slice M3 m' d3) := XY12.out.cell 1; have XOd0_12 : w12.cell? ⟨w9.heap.size, 0, none⟩ = some (.slice A5 1 c5) := XO12.out.cell 0; have XOd1_12 : w12.cell? ⟨w9.heap.size, 1, none⟩ = some (.slice M5 1 d5) := XO12.out.cell 1; clear hd hu) | (go_at_call 18; refine (real_to3 HMM.out (by omega) _ QY10.out.drew).mono ?_; rintro e w11 ⟨M6, d6, rfl, qQ6, hd⟩; have hu := Upd.of_below hd (fun _ => False); have BC11 := Lib.hid (BC10.out.drew.upd hu (fun h => h)); have AR11 := Lib.hid (AR10.out.drew.upd hu (fun h => h)); have XF11 := Lib.hid (XF10.out.drew.upd hu (fun h => h)); have XY11 := Lib.hid (XY10.out.drew.upd hu (fun h => h)); have XO11 := Lib.hid (XO10.out.drew.upd hu (fun h => h)); have HA11 := Lib.hid (HA10.out.drew.upd0 hu); have HS11 := Lib.hid (HS10.out.drew.upd0 hu); have HSV11 := Lib.hid (HSV10.out.drew.upd0 hu); have QX11 := Lib.hid (QX10.out.drew.upd0 hu); have QY11 := Lib.hid (QY10.out.drew.upd0 hu); have QZ11 := Lib.hid (QZ10.out.drew.upd0 hu); have QW11 := Lib.hid (QW10.out.drew.upd0 hu); have QE11 := Lib.hid (QE10.out.drew.upd0 hu); have QP11 := Lib.hid (QP10.out.drew.upd0 hu); have QR11 := Lib.hid (QR10.out.drew.upd0 hu); have QA11 := Lib.hid (QA10.out.drew.upd0 hu); have QM11 := Lib.hid (QM10.out.drew.upd0 hu); have Q611 := Lib.hid qQ6; clear qQ6; have U11 := Lib.hid (U10.out.drew.trans hu (fun _ h => h.elim)); have BCd0_11 : w11.cell? ⟨w.heap.size, 0, none⟩ = some (.slice A n c) := BC11.out.cell 0; have BCd1_11 : w11.cell? ⟨w.heap.size, 1, none⟩ = some (.slice M m d) := BC11.out.cell 1; have ARd0_11 : w11.cell? ⟨w.heap.size + 1, 0, none⟩ = some (.int .i64 p) := AR11.out.cell 0; have ARd1_11 : w11.cell? ⟨w.heap.size + 1, 1, none⟩ = some (.int .i64 r) := AR11.out.cell 1; have ARd2_11 : w11.cell? ⟨w.heap.size + 1, 2, none⟩ = some (.int .i64 s) := AR11.out.cell 2; have XFd0_11 : w11.cell? ⟨gf, 0, none⟩ = some (.slice A2 n' c2) := XF11.out.cell 0; have XFd1_11 : w11.cell? ⟨gf, 1, none⟩ = some (.slice M2 m' d2) := XF11.out.cell 1; have XYd0_11 : w11.cell? ⟨w4.heap.size, 0, none⟩ = some (.slice A3 n' c3) := XY11.out.cell 0; have XYd1_11 : w11.cell? ⟨w4.heap.size, 1, none⟩ = some (.slice M3 m' d3) := XY11.out.cell 1; have XOd0_11 : w11.cell? ⟨w9.heap.size, 0, none⟩ = some (.slice A5 1 c5) := XO11.out.cell 0; have XOd1_11 : w11.cell? ⟨w9.heap.size, 1, none⟩ = some (.slice M5 1 d5) := XO11.out.cell 1; clear hd hu))
              go_wp2
              go_ret
              exact ⟨rfl, U20.out.below0⟩

    · have g60 : (v : Int) > 60 := by omega
      refine (few_to (b := true) (by simp [hf.1, hf.2]) hn1 hm1 _).mono ?_
      rintro e w2 ⟨rfl, hd⟩
      have hu := Upd.of_below hd (fun _ => False)
      have BC2 := Lib.hid (BC1.out.upd hu (fun h => h))
      have AR2 := Lib.hid (AR1.out.upd hu (fun h => h))
      have HA2 := Lib.hid (HA1.out.upd0 hu)
      have HS2 := Lib.hid (HS1.out.upd0 hu)
      have HSV2 := Lib.hid (HSV1.out.upd0 hu)
      have U2 := Lib.hid (U1.out.trans hu (fun _ h => h.elim))
      clear hd hu BC1 AR1 HA1 HS1 HSV1 U1
      have BCc0 : w2.cell? ⟨w.heap.size, 0, none⟩ = some (.slice A n c) := BC2.out.cell 0
      have BCc1 : w2.cell? ⟨w.heap.size, 1, none⟩ = some (.slice M m d) := BC2.out.cell 1
      have BCl : w.heap.size < w2.heap.size := BC2.out.lt
      have ARc0 : w2.cell? ⟨w.heap.size + 1, 0, none⟩ = some (.int .i64 p) := AR2.out.cell 0
      have ARc1 : w2.cell? ⟨w.heap.size + 1, 1, none⟩ = some (.int .i64 r) := AR2.out.cell 1
      have ARc2 : w2.cell? ⟨w.heap.size + 1, 2, none⟩ = some (.int .i64 s) := AR2.out.cell 2
      have ARl : w.heap.size + 1 < w2.heap.size := AR2.out.lt
      go_wp2
      go_ret
      exact ⟨rfl, U2.out.below0⟩
  · skip
    refine (few_to (b := false) (by simp at hf ⊢; exact hf) hn1 hm1 _).mono ?_
    rintro e w2 ⟨rfl, hd⟩
    have hu := Upd.of_below hd (fun _ => False)
    have BC2 := Lib.hid (BC1.out.upd hu (fun h => h))
    have AR2 := Lib.hid (AR1.out.upd hu (fun h => h))
    have HA2 := Lib.hid (HA1.out.upd0 hu)
    have HS2 := Lib.hid (HS1.out.upd0 hu)
    have HSV2 := Lib.hid (HSV1.out.upd0 hu)
    have U2 := Lib.hid (U1.out.trans hu (fun _ h => h.elim))
    clear hd hu BC1 AR1 HA1 HS1 HSV1 U1
    have BCc0 : w2.cell? ⟨w.heap.size, 0, none⟩ = some (.slice A n c) := BC2.out.cell 0
    have BCc1 : w2.cell? ⟨w.heap.size, 1, none⟩ = some (.slice M m d) := BC2.out.cell 1
    have BCl : w.heap.size < w2.heap.size := BC2.out.lt
    have ARc0 : w2.cell? ⟨w.heap.size + 1, 0, none⟩ = some (.int .i64 p) := AR2.out.cell 0
    have ARc1 : w2.cell? ⟨w.heap.size + 1, 1, none⟩ = some (.int .i64 r) := AR2.out.cell 1
    have ARc2 : w2.cell? ⟨w.heap.size + 1, 2, none⟩ = some (.int .i64 s) := AR2.out.cell 2
    have ARl : w.heap.size + 1 < w2.heap.size := AR2.out.lt
    go_wp2
    go_ret
    exact ⟨rfl, U2.out.below0⟩
theorem btells_walk {w : World} (v0 : Value) (w0 : ∃ A n c M m d xs ms, v0 = .agg #[.slice A n c, .slice M m d] ∧ IsBatch w A n c M m d xs ms) (c1 : Array Value) (w1 : Oks [.int .i64, .int .i64, .int .i64] c1.toList) (A2 : Option Addr) (len2 cap2 : Nat) (L2 : List (List Value)) (hL2 : L2.length = len2) (hlc2 : len2 ≤ cap2) (hm2 : cap2 ≤ maxLen) (hn2 : A2 = none → len2 = 0 ∧ cap2 = 0) (hok2 : ∀ row ∈ L2, Oks [.int .i64] row) (hr2 : Rows w A2 1 L2) :
    Calls Try.prog 3 #[v0, .agg c1, .slice A2 len2 cap2] w fun e w' => e = .returned (.bool true) ∧ Below w.heap.size w w' := by
  obtain ⟨A, n, c, M, m, d, xs, ms, rfl, hb⟩ := w0
  obtain ⟨p, r, s, rfl⟩ := agg_three w1
  obtain ⟨vals, hvl, _, hsv⟩ := sl_nums hL2 hlc2 hm2 hn2 hok2 hr2
  unfold maxLen at hm2
  exact btells_any A M A2 n c m d cap2 len2 p r s xs ms vals hb.hn hb.hm hvl hb.bn hb.bm (by omega) w hb.ha hb.hs hsv
end Go.Proofs.Ytdfnhbhcgkdplaa
