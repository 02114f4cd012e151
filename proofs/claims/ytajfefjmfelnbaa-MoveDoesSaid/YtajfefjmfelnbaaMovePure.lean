/- Move: the plain laws of one step, and of how many are left. -/
import Derived.Test.YtajfefjmfelnbaaStatePure
import Derived.Test.YtajfefjmfelnbaaWalk
import Derived.Test.YtajfefjmfelnbaaMix
import Derived.Test.YtajfefjmfelnbaaBLeftx1
namespace Go.Proofs.Ytajfefjmfelnbaa
open Go.RowKit Go.Proofs.YtajfefjmfelnbaaW.PrintWords Go.Proofs.YtajfefjmfelnbaaW.PrintLast Go.Proofs.YtajfefjmfelnbaaW.PrintMore BState
set_option linter.unusedVariables false
theorem sorted_perm (l : List Int) : (sorted l).Perm l := List.mergeSort_perm l _
theorem sorted_le (l : List Int) : (sorted l).Pairwise (· ≤ ·) := by
 have := List.pairwise_mergeSort (le := fun x y : Int => decide (x ≤ y)) (fun a b c h1 h2 => by simp at *; omega) (fun a b => by simp; omega) l
 exact this.imp (fun h => by simpa using h)
theorem sorted_eq {l m : List Int} (h : l.Perm m) : sorted l = sorted m :=
 List.Perm.eq_of_pairwise (le := (· ≤ ·)) (fun a b _ _ h1 h2 => by omega) (sorted_le l) (sorted_le m) ((sorted_perm l).trans (h.trans (sorted_perm m).symm))
theorem first_of (l : List Int) (h : l.length ≠ 0) : rd (sorted l) 0 ∈ l ∧ ∀ x ∈ l, rd (sorted l) 0 ≤ x := by
 have hp := sorted_perm l
 have hs := sorted_le l
 cases e : sorted l with
 | nil => have := hp.length_eq; rw [e] at this; simp at this; omega
 | cons m r =>
  rw [e] at hp hs
  have e0 : rd (m :: r) 0 = m := by simp [rd, List.getD]
  rw [e0]
  refine ⟨hp.mem_iff.1 (by simp), fun x hx => ?_⟩
  rcases List.mem_cons.1 (hp.mem_iff.2 hx) with rfl | h
  ·omega
  ·exact (List.pairwise_cons.1 hs).1 x h
theorem last_of (l : List Int) (h : l.length ≠ 0) : lastI (sorted l) ∈ l ∧ ∀ x ∈ l, x ≤ lastI (sorted l) := by
 have hp := sorted_perm l
 have hs := sorted_le l
 have hl := hp.length_eq
 generalize sorted l = s at *
 have hne : s ≠ [] := by intro h0; rw [h0] at hl; simp at hl; omega
 have e0 : lastI s = s.getLast hne := by
  unfold lastI
  rw [List.getLast_eq_getElem]
  have : ((s.length : Int) - 1).toNat = s.length - 1 := by omega
  simp [rd, List.getD, this, List.getElem?_eq_getElem (show s.length - 1 < s.length by omega)]
 rw [e0]
 refine ⟨hp.mem_iff.1 (List.getLast_mem hne), fun x hx => ?_⟩
 have hx' := hp.mem_iff.2 hx
 obtain ⟨s', hs'⟩ : ∃ s', s = s' ++ [s.getLast hne] := ⟨s.dropLast, (List.dropLast_concat_getLast hne).symm⟩
 rw [hs'] at hx' hs
 rcases List.mem_append.1 hx' with h1 | h1
 ·exact (List.pairwise_append.1 hs).2.2 x h1 _ (by simp)
 ·simp at h1; omega
/-- The numbers ahead. -/
def nums (S : List S46) : List Int := (S.map (·.f0)).filter fun x => decide (0 ≤ x)
theorem pick_nums (c : Int) (b : Bool) (S : List S46) : pick c b S = (nums S).filter fun x => decide (c < x) != b := by
 unfold pick nums
 rw [List.filter_filter]
 congr 1
 funext x
 unfold mayB
 rw [Bool.and_comm]
theorem less_min (L : List Int) (m : Int) (hm : m ∈ L) (hmin : ∀ x ∈ L, m ≤ x) : L.filter (fun x => decide (m < x)) = L.filter (fun x => x != m) := by
 apply List.filter_congr
 intro x hx
 have := hmin x hx
 by_cases h : x = m
 ·subst h; simp
 ·rw [decide_eq_true (show m < x by omega)]; simp [h]
theorem less_max (L : List Int) (m : Int) (hm : m ∈ L) (hmax : ∀ x ∈ L, x ≤ m) : L.filter (fun x => decide (x < m)) = L.filter (fun x => x != m) := by
 apply List.filter_congr
 intro x hx
 have := hmax x hx
 by_cases h : x = m
 ·subst h; simp
 ·rw [decide_eq_true (show x < m by omega)]; simp [h]
theorem without_lt (L : List Int) (m : Int) (hm : m ∈ L) : (L.filter (fun x => x != m)).length < L.length :=
 List.length_filter_lt_length_iff_exists.2 ⟨m, hm, by simp⟩
theorem without_eq (L : List Int) (m : Int) (hm : m ∈ L) (hn : L.Nodup) : (L.filter (fun x => x != m)).length + 1 = L.length := by
 rw [← hn.erase_eq_filter m, List.length_erase_of_mem hm]
 have := List.length_pos_of_mem hm
 omega
/-- Behind a step forward. -/
theorem pick_front (c : Int) (S : List S46) (m : Int) (hm : m ∈ pick c false S) (hmin : ∀ x ∈ pick c false S, m ≤ x) : pick m false S = (pick c false S).filter (fun x => x != m) := by
 rw [← less_min _ m hm hmin, pick_nums, pick_nums, List.filter_filter]
 apply List.filter_congr
 intro x hx
 have hcm : c < m := by
  rw [pick_nums] at hm
  simpa using (List.mem_filter.1 hm).2
 by_cases h : m < x
 ·rw [decide_eq_true h, decide_eq_true (show c < x by omega)]; rfl
 ·rw [decide_eq_false h]; simp
theorem pick_back (c : Int) (S : List S46) (m : Int) (hm : m ∈ pick c true S) (hmax : ∀ x ∈ pick c true S, x ≤ m) : pick (m - 1) true S = (pick c true S).filter (fun x => x != m) := by
 rw [← less_max _ m hm hmax, pick_nums, pick_nums, List.filter_filter]
 apply List.filter_congr
 intro x hx
 have hcm : m ≤ c := by
  rw [pick_nums] at hm
  simpa using (List.mem_filter.1 hm).2
 by_cases h : x < m
 ·rw [decide_eq_true h, decide_eq_false (show ¬ m - 1 < x by omega), decide_eq_false (show ¬ c < x by omega)]; rfl
 ·rw [decide_eq_false h, decide_eq_true (show m - 1 < x by omega)]; simp
/-- The numbers of a machine. -/
def Nums (S : List S46) : Prop := ∀ x ∈ S.map (·.f0), x ≤ 9223372036854775807
theorem fine_nums {m : Nat} {S : List S46} (h : Fine m S) : Nums S := by
 intro x hx
 obtain ⟨y, hy, rfl⟩ := List.mem_map.1 hx
 have := h.2.1 y hy
 omega
theorem pick_mem {c : Int} {b : Bool} {S : List S46} {x : Int} (h : x ∈ pick c b S) : x ∈ S.map (·.f0) ∧ 0 ≤ x := by
 rw [pick_nums] at h
 have h1 := List.mem_filter.1 (List.mem_filter.1 h).1
 exact ⟨h1.1, by simpa using h1.2⟩
theorem pick_gt {c x : Int} {S : List S46} (h : x ∈ pick c false S) : c < x := by
 rw [pick_nums] at h
 simpa using (List.mem_filter.1 h).2
theorem pick_le' {c x : Int} {S : List S46} (h : x ∈ pick c true S) : x ≤ c := by
 rw [pick_nums] at h
 simpa using (List.mem_filter.1 h).2
theorem pick_nodup {m : Nat} {S : List S46} (h : Fine m S) (c : Int) (b : Bool) : (pick c b S).Nodup := List.Nodup.sublist List.filter_sublist h.2.2
/-- One step, told by what may be: over; or the cursor is at another place, and fewer are left. -/
theorem step_cases (f t c : Int) (b : Bool) (S : List S46) (hN : Nums S) (hft : f ≠ t) :
 ((pick c b S).length = 0 ∧ stepI f t c b S = (if b = true then f else t, if b = true then f else t, 0, false, true)) ∨
 ∃ c', stepI f t c b S = (f, t, c', b, true) ∧ (pick c' b S).length < (pick c b S).length ∧ ((pick c b S).Nodup → (pick c' b S).length + 1 = (pick c b S).length) ∧ -1 ≤ c' ∧ (∀ x, 0 ≤ x → x ∈ S.map (·.f0) → (decide (x ≤ c') != decide (x ≤ c)) = true → x = if b = true then c' + 1 else c') := by
 have hsl := sorted_length (pick c b S)
 by_cases h0 : (pick c b S).length = 0
 ·left
  refine ⟨h0, ?_⟩
  unfold stepI
  rw [if_neg hft, if_pos (by omega)]
  cases b <;> simp
 ·right
  cases b with
  | false =>
   have hf := first_of (pick c false S) h0
   have hp := pick_front c S _ hf.1 hf.2
   refine ⟨rd (sorted (pick c false S)) 0, ?_, ?_, ?_, ?_, ?_⟩
   ·unfold stepI
    rw [if_neg hft, if_neg (by omega), if_neg (by decide)]
   ·rw [hp]; exact without_lt _ _ hf.1
   ·intro hn; rw [hp]; exact without_eq _ _ hf.1 hn
   ·have := (pick_mem hf.1).2; omega
   ·intro x hx0 hx hne
    have hcm := pick_gt hf.1
    simp only [Bool.false_eq_true, if_false]
    by_cases h1 : x ≤ rd (sorted (pick c false S)) 0
    ·by_cases h2 : x ≤ c
     ·rw [decide_eq_true h1, decide_eq_true h2] at hne; simp at hne
     ·have hxp : x ∈ pick c false S := by
       rw [pick_nums]
       refine List.mem_filter.2 ⟨List.mem_filter.2 ⟨hx, by simpa using hx0⟩, ?_⟩
       simp; omega
      have := hf.2 x hxp
      omega
    ·rw [decide_eq_false h1, decide_eq_false (show ¬ x ≤ c by omega)] at hne; simp at hne
  | true =>
   have hf := last_of (pick c true S) h0
   have hp := pick_back c S _ hf.1 hf.2
   have hm := pick_mem hf.1
   have hw : wrap64 (lastI (sorted (pick c true S)) - 1) = lastI (sorted (pick c true S)) - 1 := by
    have := hN _ hm.1
    unfold wrap64
    omega
   refine ⟨lastI (sorted (pick c true S)) - 1, ?_, ?_, ?_, ?_, ?_⟩
   ·unfold stepI
    rw [if_neg hft, if_neg (by omega), if_pos rfl, hw]
   ·rw [hp]; exact without_lt _ _ hf.1
   ·intro hn; rw [hp]; exact without_eq _ _ hf.1 hn
   ·omega
   ·intro x hx0 hx hne
    have hcm := pick_le' hf.1
    simp only [if_true]
    by_cases h1 : x ≤ lastI (sorted (pick c true S)) - 1
    ·rw [decide_eq_true h1, decide_eq_true (show x ≤ c by omega)] at hne; simp at hne
    ·by_cases h2 : x ≤ c
     ·have hxp : x ∈ pick c true S := by
       rw [pick_nums]
       refine List.mem_filter.2 ⟨List.mem_filter.2 ⟨hx, by simpa using hx0⟩, ?_⟩
       simp; omega
      have := hf.2 x hxp
      omega
     ·rw [decide_eq_false h1, decide_eq_false h2] at hne; simp at hne
/-- How many are left. -/
def left (f t c : Int) (b : Bool) (S : List S46) : Nat := if f = t then 0 else (pick c b S).length + 1
theorem left_step {n : Nat} {S : List S46} (h : Fine n S) (f t c : Int) (b : Bool) (hft : f ≠ t) :
 left (stepI f t c b S).1 (stepI f t c b S).2.1 (stepI f t c b S).2.2.1 (stepI f t c b S).2.2.2.1 S + 1 = left f t c b S := by
 have hl : left f t c b S = (pick c b S).length + 1 := by unfold left; rw [if_neg hft]
 rw [hl]
 rcases step_cases f t c b S (fine_nums h) hft with ⟨h0, e⟩ | ⟨c', e, h1, h2, _⟩
 ·rw [e]
  unfold left
  simp only
  rw [if_pos trivial]
  omega
 ·rw [e]
  have := h2 (pick_nodup h c b)
  unfold left
  simp only
  rw [if_neg hft]
  omega
theorem step_f (f t c : Int) (b : Bool) (x y z : Int) (S : List S46) (h : S.length ≤ 1000000) : move_Step.f f t c b x y z S = some (stepI f t c b S) := by
 unfold move_Step.f
 rw [if_pos h]
theorem left_l0 {n : Nat} {S : List S46} (h : Fine n S) (hn : n ≤ 1000000) (x y z : Int) : ∀ (d k : Nat) (f t c : Int) (b : Bool) (a : Nat), left f t c b S = d → a + d ≤ 100000000 → d < k →
 BLeft.move_Left.l0 k (a : Int) (f != t) f t c b x y z S = some ((a + d : Nat) : Int)
 | d, k + 1, f, t, c, b, a, hd, ha, hk => by
  rw [BLeft.move_Left.l0]
  by_cases hft : f = t
  ·have : d = 0 := by rw [← hd]; unfold left; rw [if_pos hft]
   subst this
   rw [if_neg (by simp [hft])]
   rfl
  ·have hs := left_step h f t c b hft
   cases d with
   | zero => omega
   | succ d =>
    have e : wrap64 ((a : Int) + 1) = ((a + 1 : Nat) : Int) := by unfold wrap64; omega
    rw [if_pos (by simp [hft]), step_f _ _ _ _ _ _ _ _ (Nat.le_trans h.1 hn), Option.bind_some]
    unfold BBegin.move_moves.f
    rw [Option.bind_some, e, left_l0 h hn x y z d k _ _ _ _ (a + 1) (by omega) (by omega) (by omega)]
    congr 1
    omega
theorem left_pure {n : Nat} {S : List S46} (h : Fine n S) (hn : n ≤ 1000000) (k : Nat) (f t c : Int) (b : Bool) (x y z : Int) (hk : left f t c b S < k) : BLeft.move_Left.f k f t c b x y z S = some (left f t c b S : Int) := by
 have hl : left f t c b S ≤ n + 1 := by
  unfold left
  split
  ·omega
  ·have := pick_le c b S
   have := h.1
   omega
 unfold BLeft.move_Left.f BBegin.move_moves.f
 rw [Option.bind_some]
 have := left_l0 h hn x y z (left f t c b S) k f t c b 0 rfl (by omega) hk
 simpa using this
theorem left_le {n : Nat} {S : List S46} (h : Fine n S) (f t c : Int) (b : Bool) : left f t c b S ≤ n + 1 := by
 unfold left
 split
 ·omega
 ·have := pick_le c b S
  have := h.1
  omega
/-- Only the numbers count. -/
theorem pick_perm {S T : List S46} (h : (S.map (·.f0)).Perm (T.map (·.f0))) (c : Int) (b : Bool) : (pick c b S).Perm (pick c b T) := h.filter _
theorem step_perm {S T : List S46} (h : (S.map (·.f0)).Perm (T.map (·.f0))) (f t c : Int) (b : Bool) : stepI f t c b S = stepI f t c b T := by
 unfold stepI
 rw [sorted_eq (pick_perm h c b)]
theorem left_perm {S T : List S46} (h : (S.map (·.f0)).Perm (T.map (·.f0))) (f t c : Int) (b : Bool) : left f t c b S = left f t c b T := by
 unfold left
 rw [(pick_perm h c b).length_eq]
theorem fine_perm {n : Nat} {S T : List S46} (h : (S.map (·.f0)).Perm (T.map (·.f0))) (hS : Fine n S) : Fine n T := by
 have hl := h.length_eq
 simp only [List.length_map] at hl
 refine ⟨by have := hS.1; omega, fun y hy => ?_, (h.nodup_iff).1 hS.2.2⟩
 have hm : y.f0 ∈ S.map (·.f0) := h.mem_iff.2 (List.mem_map.2 ⟨y, hy, rfl⟩)
 obtain ⟨z, hz, e⟩ := List.mem_map.1 hm
 rw [← e]
 exact hS.2.1 z hz
end Go.Proofs.Ytajfefjmfelnbaa
