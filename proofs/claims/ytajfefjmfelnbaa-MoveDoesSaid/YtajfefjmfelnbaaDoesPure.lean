/- MoveDoes, the plain laws: the reference's Begin, Turn, Step, Walk and Left are the program's. -/
import Derived.Test.YtajfefjmfelnbaaMovePure
import Derived.Test.YtajfefjmfelnbaaVWalkx2
import Derived.Test.YtajfefjmfelnbaaVLeftx1
import Derived.Test.YtajfefjmfelnbaaVTurnx1
import Derived.Test.YtajfefjmfelnbaaBknownx1
namespace Go.Proofs.Ytajfefjmfelnbaa
open Go.RowKit Go.Proofs.YtajfefjmfelnbaaW.PrintWords Go.Proofs.YtajfefjmfelnbaaW.PrintLast Go.Proofs.YtajfefjmfelnbaaW.PrintMore BState
set_option linter.unusedVariables false
open VWalk in
theorem ref_begin (k : Nat) (f t c : Int) (b : Bool) (w : Int) : roadsteadref16_Begin.f (k + 1) f t c b w = some (beginI f t c b w) := by
 unfold roadsteadref16_Begin.f beginI
 by_cases h1 : w < 1
 ·rw [if_pos h1, if_pos (Or.inl h1), roadsteadref16_Begin.j0, if_pos rfl]
 ·rw [if_neg h1]
  by_cases h3 : 3 < w
  ·rw [if_pos (Or.inr h3), show decide (w > 3) = true from decide_eq_true h3, roadsteadref16_Begin.j0, if_pos rfl]
  ·rw [if_neg (by omega), show decide (w > 3) = false from decide_eq_false h3, roadsteadref16_Begin.j0, if_neg (by simp)]
   by_cases hft : f = t
   ·subst hft
    rw [if_pos rfl, show (if f ≠ f then (f, f, c, b, 51) else (f, wrap64 (f + cmpI w f), 0, false, 0)) = (f, wrap64 (f + cmpI w f), 0, false, (0 : Int)) from if_neg (by simp)]
    unfold cmpI
    by_cases a : w < f
    ·rw [if_neg (by omega), if_pos a, if_pos a]; rfl
    ·by_cases b : w > f
     ·rw [if_pos b, if_neg a, if_pos b]
     ·rw [if_neg b, if_neg a, if_neg a, if_neg b, Int.add_zero, w64 f (by omega)]
   ·rw [if_neg hft, if_pos hft]
theorem ref_turn (f t c : Int) (b : Bool) : VTurn.roadsteadref16_Turn.f f t c b = Bknown.move_Turn.f f t c b := by
 unfold VTurn.roadsteadref16_Turn.f Bknown.move_Turn.f BBegin.move_moves.f
 rw [Option.bind_some]
 by_cases h : f = t
 ·rw [if_pos h, if_neg (by simp [h])]
 ·rw [if_neg h, if_pos (by simp [h])]
def InvU (n : Int) (L : List S46) (b : Int) : Prop := (b = -1 ∧ ∀ y ∈ L, ¬ (0 ≤ y.f0 ∧ y.f0 ≤ n)) ∨ (0 ≤ b ∧ b ≤ n ∧ (∃ y ∈ L, y.f0 = b) ∧ ∀ y ∈ L, y.f0 ≤ n → y.f0 ≤ b)
def InvA (n : Int) (L : List S46) (b : Int) : Prop := (b = -1 ∧ ∀ y ∈ L, ¬ (0 ≤ y.f0 ∧ n < y.f0)) ∨ (0 ≤ b ∧ n < b ∧ (∃ y ∈ L, y.f0 = b) ∧ ∀ y ∈ L, 0 ≤ y.f0 → n < y.f0 → b ≤ y.f0)
theorem take_snoc (S : List S46) (i : Nat) (h : i < S.length) : S.take (i + 1) = S.take i ++ [rd_T46 S (i : Int)] := by
 have e : rd_T46 S (i : Int) = S[i] := by simp [rd_T46, List.getD, List.getElem?_eq_getElem h]
 rw [List.take_add_one, List.getElem?_eq_getElem h, e]
 rfl
theorem invU_snoc {n : Int} {L : List S46} {b : Int} (y : S46) (h : InvU n L b) : InvU n (L ++ [y]) (if y.f0 ≤ n ∧ y.f0 > b then y.f0 else b) := by
 unfold InvU at *
 by_cases hc : y.f0 ≤ n ∧ y.f0 > b
 ·rw [if_pos hc]
  right
  rcases h with ⟨hb, h⟩ | ⟨h0, h1, h2, h3⟩
  ·refine ⟨by omega, hc.1, ⟨y, by simp, rfl⟩, fun z hz hn => ?_⟩
   rcases List.mem_append.1 hz with hz | hz
   ·have := h z hz; omega
   ·simp at hz; subst hz; omega
  ·refine ⟨by omega, hc.1, ⟨y, by simp, rfl⟩, fun z hz hn => ?_⟩
   rcases List.mem_append.1 hz with hz | hz
   ·have := h3 z hz hn; omega
   ·simp at hz; subst hz; omega
 ·rw [if_neg hc]
  rcases h with ⟨hb, h⟩ | ⟨h0, h1, ⟨y2, h2, h2'⟩, h3⟩
  ·left
   refine ⟨hb, fun z hz => ?_⟩
   rcases List.mem_append.1 hz with hz | hz
   ·exact h z hz
   ·simp at hz; subst hz; omega
  ·right
   refine ⟨h0, h1, ⟨y2, by simp [h2], h2'⟩, fun z hz hn => ?_⟩
   rcases List.mem_append.1 hz with hz | hz
   ·exact h3 z hz hn
   ·simp at hz; subst hz; omega
theorem invA_snoc {n : Int} {L : List S46} {b : Int} (y : S46) (h : InvA n L b) : InvA n (L ++ [y]) (if 0 ≤ y.f0 ∧ n < y.f0 ∧ (b < 0 ∨ y.f0 < b) then y.f0 else b) := by
 unfold InvA at *
 by_cases hc : 0 ≤ y.f0 ∧ n < y.f0 ∧ (b < 0 ∨ y.f0 < b)
 ·rw [if_pos hc]
  right
  rcases h with ⟨hb, h⟩ | ⟨h0, h1, h2, h3⟩
  ·refine ⟨by omega, hc.2.1, ⟨y, by simp, rfl⟩, fun z hz hn hn2 => ?_⟩
   rcases List.mem_append.1 hz with hz | hz
   ·have := h z hz; omega
   ·simp at hz; subst hz; omega
  ·refine ⟨by omega, hc.2.1, ⟨y, by simp, rfl⟩, fun z hz hn hn2 => ?_⟩
   rcases List.mem_append.1 hz with hz | hz
   ·have := h3 z hz hn hn2; omega
   ·simp at hz; subst hz; omega
 ·rw [if_neg hc]
  rcases h with ⟨hb, h⟩ | ⟨h0, h1, ⟨y2, h2, h2'⟩, h3⟩
  ·left
   refine ⟨hb, fun z hz => ?_⟩
   rcases List.mem_append.1 hz with hz | hz
   ·exact h z hz
   ·simp at hz; subst hz; omega
  ·right
   refine ⟨h0, h1, ⟨y2, by simp [h2], h2'⟩, fun z hz hn hn2 => ?_⟩
   rcases List.mem_append.1 hz with hz | hz
   ·exact h3 z hz hn hn2
   ·simp at hz; subst hz; omega
open VWalk in
theorem under_l0 (n x y z : Int) (S : List S46) (hS : S.length ≤ 1000) : ∀ (d k i : Nat) (b : Int), S.length - i ≤ d → d < k → i ≤ S.length → InvU n (S.take i) b → ∃ r, roadsteadref16_under.l0 k n b (i : Int) x y z S = some r ∧ InvU n S r
 | d, k + 1, i, b, hd, hk, hi, hv => by
  rw [roadsteadref16_under.l0]
  by_cases hlt : i < S.length
  ·cases d with
   | zero => omega
   | succ d =>
    have hw : wrap64 ((i : Int) + 1) = ((i + 1 : Nat) : Int) := by unfold wrap64; omega
    have hs := invU_snoc (rd_T46 S (i : Int)) hv
    rw [← take_snoc S i hlt] at hs
    rw [if_pos (by omega), if_pos (by omega), hw]
    by_cases h1 : (rd_T46 S (i : Int)).f0 ≤ n
    ·rw [if_pos h1]
     by_cases h2 : (rd_T46 S (i : Int)).f0 > b
     ·rw [if_pos h2]
      rw [if_pos ⟨h1, h2⟩] at hs
      exact under_l0 n x y z S hS d k (i + 1) _ (by omega) (by omega) (by omega) hs
     ·rw [if_neg h2]
      rw [if_neg (fun h => h2 h.2)] at hs
      exact under_l0 n x y z S hS d k (i + 1) _ (by omega) (by omega) (by omega) hs
    ·rw [if_neg h1]
     rw [if_neg (fun h => h1 h.1)] at hs
     exact under_l0 n x y z S hS d k (i + 1) _ (by omega) (by omega) (by omega) hs
  ·have : i = S.length := by omega
   subst this
   rw [if_neg (by omega)]
   rw [List.take_length] at hv
   exact ⟨b, rfl, hv⟩
open VWalk in
theorem above_l0 (n x y z : Int) (S : List S46) (hS : S.length ≤ 1000) : ∀ (d k i : Nat) (b : Int), S.length - i ≤ d → d < k → i ≤ S.length → InvA n (S.take i) b → ∃ r, roadsteadref16_above.l0 k n b (i : Int) x y z S = some r ∧ InvA n S r
 | d, k + 1, i, b, hd, hk, hi, hv => by
  rw [roadsteadref16_above.l0]
  by_cases hlt : i < S.length
  ·cases d with
   | zero => omega
   | succ d =>
    have hw : wrap64 ((i : Int) + 1) = ((i + 1 : Nat) : Int) := by unfold wrap64; omega
    have hs := invA_snoc (rd_T46 S (i : Int)) hv
    rw [← take_snoc S i hlt] at hs
    rw [if_pos (by omega), if_pos (by omega), hw]
    have go := fun q hq => above_l0 n x y z S hS d k (i + 1) q (by omega) (by omega) (by omega) hq
    by_cases h1 : (rd_T46 S (i : Int)).f0 ≥ 0
    ·rw [if_pos h1]
     by_cases h2 : (rd_T46 S (i : Int)).f0 > n
     ·rw [if_pos h2]
      by_cases h3 : b < 0
      ·rw [if_pos h3]
       rw [if_pos ⟨h1, h2, Or.inl h3⟩] at hs
       exact go _ hs
      ·rw [if_neg h3]
       by_cases h4 : (rd_T46 S (i : Int)).f0 < b
       ·rw [if_pos h4]
        rw [if_pos ⟨h1, h2, Or.inr h4⟩] at hs
        exact go _ hs
       ·rw [if_neg h4]
        rw [if_neg (by omega)] at hs
        exact go _ hs
     ·rw [if_neg h2]
      rw [if_neg (by omega)] at hs
      exact go _ hs
    ·rw [if_neg h1]
     rw [if_neg (by omega)] at hs
     exact go _ hs
  ·have : i = S.length := by omega
   subst this
   rw [if_neg (by omega)]
   rw [List.take_length] at hv
   exact ⟨b, rfl, hv⟩
theorem mem_pick_back {c : Int} {S : List S46} {y : S46} (hy : y ∈ S) (h0 : 0 ≤ y.f0) (h1 : y.f0 ≤ c) : y.f0 ∈ pick c true S := by
 rw [pick_nums]
 refine List.mem_filter.2 ⟨List.mem_filter.2 ⟨List.mem_map.2 ⟨y, hy, rfl⟩, by simpa using h0⟩, ?_⟩
 simp; omega
theorem mem_pick_front {c : Int} {S : List S46} {y : S46} (hy : y ∈ S) (h0 : 0 ≤ y.f0) (h1 : c < y.f0) : y.f0 ∈ pick c false S := by
 rw [pick_nums]
 refine List.mem_filter.2 ⟨List.mem_filter.2 ⟨List.mem_map.2 ⟨y, hy, rfl⟩, by simpa using h0⟩, ?_⟩
 simp; omega
theorem under_is {c : Int} {S : List S46} {r : Int} (h : InvU c S r) : ((pick c true S).length = 0 ∧ r = -1) ∨ ((pick c true S).length ≠ 0 ∧ 0 ≤ r ∧ r = lastI (sorted (pick c true S))) := by
 rcases h with ⟨hb, h⟩ | ⟨h0, h1, ⟨y, hy, e⟩, h3⟩
 ·left
  refine ⟨?_, hb⟩
  cases hp : pick c true S with
  | nil => rfl
  | cons x xs =>
   have hx : x ∈ pick c true S := by rw [hp]; simp
   have h5 := pick_le' hx
   obtain ⟨h6, h7⟩ := pick_mem hx
   obtain ⟨y, hy, rfl⟩ := List.mem_map.1 h6
   exact absurd ⟨h7, h5⟩ (h y hy)
 ·right
  have hm : r ∈ pick c true S := by rw [← e]; exact mem_pick_back hy (by omega) (by omega)
  have hl : (pick c true S).length ≠ 0 := by intro hh; rw [List.length_eq_zero_iff.1 hh] at hm; cases hm
  refine ⟨hl, h0, ?_⟩
  have hf := last_of (pick c true S) hl
  have h8 := hf.2 r hm
  obtain ⟨h6, h7⟩ := pick_mem hf.1
  have h9 := pick_le' hf.1
  obtain ⟨y2, hy2, e2⟩ := List.mem_map.1 h6
  have := h3 y2 hy2 (by omega)
  omega
theorem above_is {c : Int} {S : List S46} {r : Int} (h : InvA c S r) : ((pick c false S).length = 0 ∧ r = -1) ∨ ((pick c false S).length ≠ 0 ∧ 0 ≤ r ∧ r = rd (sorted (pick c false S)) 0) := by
 rcases h with ⟨hb, h⟩ | ⟨h0, h1, ⟨y, hy, e⟩, h3⟩
 ·left
  refine ⟨?_, hb⟩
  cases hp : pick c false S with
  | nil => rfl
  | cons x xs =>
   have hx : x ∈ pick c false S := by rw [hp]; simp
   have h5 := pick_gt hx
   obtain ⟨h6, h7⟩ := pick_mem hx
   obtain ⟨y, hy, rfl⟩ := List.mem_map.1 h6
   exact absurd ⟨h7, h5⟩ (h y hy)
 ·right
  have hm : r ∈ pick c false S := by rw [← e]; exact mem_pick_front hy (by omega) (by omega)
  have hl : (pick c false S).length ≠ 0 := by intro hh; rw [List.length_eq_zero_iff.1 hh] at hm; cases hm
  refine ⟨hl, h0, ?_⟩
  have hf := first_of (pick c false S) hl
  have h8 := hf.2 r hm
  obtain ⟨h6, h7⟩ := pick_mem hf.1
  have h9 := pick_gt hf.1
  obtain ⟨y2, hy2, e2⟩ := List.mem_map.1 h6
  have := h3 y2 hy2 (by omega) (by omega)
  omega
open VWalk in
theorem ref_step {S : List S46} (hS : S.length ≤ 1000) (k : Nat) (hk : S.length < k) (f t c : Int) (b : Bool) (x y z : Int) : roadsteadref16_Step.f k f t c b x y z S = some (stepI f t c b S) := by
 unfold roadsteadref16_Step.f
 have hsl := sorted_length (pick c b S)
 by_cases hft : f = t
 ·rw [if_pos hft]
  unfold stepI
  rw [if_pos hft]
 ·rw [if_neg hft]
  unfold stepI
  rw [if_neg hft]
  cases b with
  | true =>
   rw [if_pos rfl]
   obtain ⟨r, hr, hv⟩ := under_l0 c x y z S hS S.length k 0 (-1) (by omega) hk (Nat.zero_le _) (Or.inl ⟨rfl, by simp⟩)
   unfold roadsteadref16_under.f
   rw [show ((0 : Nat) : Int) = 0 from rfl] at hr
   rw [hr, Option.bind_some]
   rcases under_is hv with ⟨h0, h1⟩ | ⟨h0, h1, h2⟩
   ·rw [if_pos (by omega), if_pos (by omega)]; simp
   ·rw [if_neg (by omega), if_neg (by omega), if_pos rfl, h2]
  | false =>
   rw [if_neg (by decide)]
   obtain ⟨r, hr, hv⟩ := above_l0 c x y z S hS S.length k 0 (-1) (by omega) hk (Nat.zero_le _) (Or.inl ⟨rfl, by simp⟩)
   unfold roadsteadref16_above.f
   rw [show ((0 : Nat) : Int) = 0 from rfl] at hr
   rw [hr, Option.bind_some]
   rcases above_is hv with ⟨h0, h1⟩ | ⟨h0, h1, h2⟩
   ·rw [if_pos (by omega), if_pos (by omega)]; simp
   ·rw [if_neg (by omega), if_neg (by omega), if_neg (by decide), h2]
/-- Left: the program and the reference come to the same number. -/
theorem lefts_l0 {S : List S46} (hS : S.length ≤ 1000) (hN : Nums S) (x y z : Int) : ∀ (d k k2 : Nat) (f t c : Int) (b : Bool) (a : Nat), (pick c b S).length ≤ d → a + d ≤ 100000 → d + 2 < k → S.length + d + 3 < k2 →
 ∃ r, BLeft.move_Left.l0 k (a : Int) (f != t) f t c b x y z S = some r ∧ VLeft.roadsteadref16_Left.l0 k2 (a : Int) f t c b x y z S = some r
 | d, k + 1, k2 + 1, f, t, c, b, a, hd, ha, hk, hk2 => by
  rw [BLeft.move_Left.l0, VLeft.roadsteadref16_Left.l0, ref_step hS k2 (by omega), Option.bind_some]
  by_cases hft : f = t
  ·have e : stepI f t c b S = (f, t, c, b, false) := by unfold stepI; rw [if_pos hft]
   rw [if_neg (by simp [hft]), e, if_neg (by simp)]
   exact ⟨_, rfl, rfl⟩
  ·have e : wrap64 ((a : Int) + 1) = ((a + 1 : Nat) : Int) := by unfold wrap64; omega
   rw [if_pos (by simp [hft]), step_f _ _ _ _ _ _ _ _ (by omega), Option.bind_some]
   unfold BBegin.move_moves.f
   rw [Option.bind_some, e]
   rcases step_cases f t c b S hN hft with ⟨h0, e2⟩ | ⟨c', e2, h1, _, _⟩
   ·rw [e2]
    simp only [if_true]
    cases k with
    | zero => omega
    | succ k =>
     cases k2 with
     | zero => omega
     | succ k2 =>
      generalize (if b = true then f else t) = g
      rw [BLeft.move_Left.l0, VLeft.roadsteadref16_Left.l0, ref_step hS k2 (by omega), Option.bind_some]
      have e3 : stepI g g 0 false S = (g, g, 0, false, false) := by unfold stepI; rw [if_pos rfl]
      rw [if_neg (by simp), e3, if_neg (by simp)]
      exact ⟨_, rfl, rfl⟩
   ·rw [e2]
    simp only [if_true]
    cases d with
    | zero => omega
    | succ d => exact lefts_l0 hS hN x y z d k k2 f t c' b (a + 1) (by omega) (by omega) (by omega) (by omega)
theorem lefts_pure {S : List S46} (hS : S.length ≤ 1000) (hN : Nums S) (x y z f t c : Int) (b : Bool) : ∃ r, BLeft.move_Left.f 3000 f t c b x y z S = some r ∧ VLeft.roadsteadref16_Left.f 3000 f t c b x y z S = some r := by
 unfold BLeft.move_Left.f BBegin.move_moves.f VLeft.roadsteadref16_Left.f
 rw [Option.bind_some]
 have h1 := pick_le c b S
 exact lefts_l0 hS hN x y z S.length 3000 3000 f t c b 0 h1 (by omega) (by omega) (by omega)
open VWalk in
theorem ref_walk_l0 {S : List S46} (hS : S.length ≤ 1000) (x y z v m : Int) (hv : 1 ≤ v ∧ v ≤ 3) (hm : m ≤ 1000) : ∀ (d k n : Nat) (f t c : Int) (b : Bool), (m - n).toNat = d → n ≤ 1000 → S.length + 2 * d + 3 < k → roadsteadref16_Walk.l0 k v m (n : Int) f t c b x y z S = some (walkI d v n f t c b S)
 | d, k + 2, n, f, t, c, b, hd, hn, hk => by
  rw [roadsteadref16_Walk.l0]
  cases d with
  | zero =>
   rw [if_neg (by omega), roadsteadref16_Walk.j1, if_neg (by simp)]
   rfl
  | succ d =>
   have e : wrap64 ((n : Int) + 1) = ((n + 1 : Nat) : Int) := by unfold wrap64; omega
   rw [if_pos (by omega), if_pos (by omega), if_pos (by omega)]
   by_cases hft : f = t
   ·rw [if_pos hft]
    by_cases hfv : f = v
    ·have : (f != v) = false := by simp [hfv]
     rw [this, roadsteadref16_Walk.j1, if_neg (by simp)]
     unfold walkI
     rw [if_pos ⟨hft, hfv⟩]
    ·have : (f != v) = true := by simp [hfv]
     rw [this, roadsteadref16_Walk.j1, if_pos rfl, if_pos hft]
     cases k with
     | zero => omega
     | succ k =>
      rw [ref_begin, Option.bind_some, ref_step hS (k + 1) (by omega), Option.bind_some, e, ref_walk_l0 hS x y z v m hv hm d (k + 1) (n + 1) _ _ _ _ (by omega) (by omega) (by omega)]
      conv => rhs; unfold walkI
      rw [if_neg (fun h => hfv h.2)]
      unfold oneI
      rw [if_pos hft]
   ·rw [if_neg hft, roadsteadref16_Walk.j1, if_pos rfl, if_neg hft, ref_step hS k (by omega), Option.bind_some, e, ref_walk_l0 hS x y z v m hv hm d k (n + 1) _ _ _ _ (by omega) (by omega) (by omega)]
    conv => rhs; unfold walkI
    rw [if_neg (fun h => hft h.1)]
    unfold oneI
    rw [if_neg hft]
open VWalk in
theorem ref_walk {S : List S46} (hS : S.length ≤ 1000) (x y z v m : Int) (hm : m ≤ 1000) (f t c : Int) (b : Bool) : roadsteadref16_Walk.f 5000 f t c b x y z S v m = some (goI f t c b S v m) := by
 unfold roadsteadref16_Walk.f goI
 by_cases hv : v < 1 ∨ 3 < v
 ·rw [if_pos hv, show (5000 : Nat) = 4998 + 2 from rfl, roadsteadref16_Walk.l0]
  have hj : roadsteadref16_Walk.j1 (4998 + 1) v m 0 false f t c b x y z S = some (f, t, c, b, 0) := by
   rw [roadsteadref16_Walk.j1, if_neg (by simp)]
  rw [hj]
  by_cases h0 : (0 : Int) < m
  ·rw [if_pos h0]
   by_cases h1 : v ≥ 1
   ·rw [if_pos h1, if_neg (by omega)]
   ·rw [if_neg h1]
  ·rw [if_neg h0]
 ·rw [if_neg hv]
  exact ref_walk_l0 hS x y z v m (by omega) hm m.toNat 5000 0 f t c b (by simp) (by omega) (by omega)
end Go.Proofs.Ytajfefjmfelnbaa
