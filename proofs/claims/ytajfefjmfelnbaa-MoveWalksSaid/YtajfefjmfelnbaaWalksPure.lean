/- MoveWalks, the plain law: one walks to where one will, and each step changes one version at most. -/
import Derived.Test.YtajfefjmfelnbaaPartsPure
namespace Go.Proofs.Ytajfefjmfelnbaa
open Go.RowKit Go.Proofs.YtajfefjmfelnbaaW.PrintWords Go.Proofs.YtajfefjmfelnbaaW.PrintLast Go.Proofs.YtajfefjmfelnbaaW.PrintMore BState
set_option linter.unusedVariables false
/-- The version of a number. -/
def routeI (f t c id : Int) : Int := if id ≤ c then t else f
/-- How many go elsewhere. -/
def other (f t c f' t' c' : Int) (S : List S46) : Nat := S.countP fun y => decide (routeI f t c y.f0 ≠ routeI f' t' c' y.f0)
theorem count_one (S : List S46) (p : S46 → Bool) (m : Int) (h : ∀ y ∈ S, p y = true → y.f0 = m) (hn : (S.map (·.f0)).Nodup) : S.countP p ≤ 1 := by
  have h1 : S.countP p ≤ S.countP (fun y => y.f0 == m) := List.countP_mono_left fun y hy hp => by simpa using h y hy hp
  have h2 : S.countP (fun y => y.f0 == m) = (S.map (·.f0)).count m := by
    rw [List.count, List.countP_map]; rfl
  have h3 : (S.map (·.f0)).count m ≤ 1 := List.nodup_iff_count.1 hn m
  omega
theorem other_none (S : List S46) (f t c f' t' c' : Int) (h : ∀ y ∈ S, routeI f t c y.f0 = routeI f' t' c' y.f0) : other f t c f' t' c' S = 0 := by
  unfold other
  rw [List.countP_eq_zero]
  intro y hy
  simp [h y hy]
theorem other_snoc (S : List S46) (f t c f' t' c' : Int) (j : Nat) (h : j < S.length) : other f t c f' t' c' (S.take (j + 1)) = other f t c f' t' c' (S.take j) + if routeI f t c (rd_T46 S (j : Int)).f0 = routeI f' t' c' (rd_T46 S (j : Int)).f0 then 0 else 1 := by
  unfold other
  have e : rd_T46 S (j : Int) = S[j] := by simp [rd_T46, List.getD, List.getElem?_eq_getElem h]
  rw [List.take_add_one, List.getElem?_eq_getElem h, List.countP_append, e]
  congr 1
  by_cases hh : routeI f t c S[j].f0 = routeI f' t' c' S[j].f0 <;> simp [hh]
theorem pick_none {c : Int} {b : Bool} {S : List S46} (h0 : (pick c b S).length = 0) (y : S46) (hy : y ∈ S) (hp : 1 ≤ y.f0) : (decide (c < y.f0) != b) = false := by
  have he : pick c b S = [] := List.length_eq_zero_iff.1 h0
  rw [pick_nums] at he
  have := List.filter_eq_nil_iff.1 he y.f0 (List.mem_filter.2 ⟨List.mem_map.2 ⟨y, hy, rfl⟩, by simp; omega⟩)
  simpa using this
theorem other_step {n : Nat} {S : List S46} (h : Fine n S) (f t c : Int) (b : Bool) (hft : f ≠ t) :
    other f t c (stepI f t c b S).1 (stepI f t c b S).2.1 (stepI f t c b S).2.2.1 S ≤ 1 := by
  rcases step_cases f t c b S (fine_nums h) hft with ⟨h0, e⟩ | ⟨c', e, _, _, _, h1⟩
  · rw [e]
    simp only
    rw [other_none]
    · omega
    · intro y hy
      have hp := (h.2.1 y hy).1
      have := pick_none h0 y hy hp
      unfold routeI
      cases b with
      | true =>
        have : ¬ y.f0 ≤ c := by simp at this; omega
        rw [if_neg this]
        simp
      | false =>
        have : y.f0 ≤ c := by simp at this; omega
        rw [if_pos this]
        simp
  · rw [e]
    simp only
    refine count_one S _ (if b = true then c' + 1 else c') (fun y hy hp => ?_) h.2.2
    refine h1 y.f0 (by have := (h.2.1 y hy).1; omega) (List.mem_map.2 ⟨y, hy, rfl⟩) ?_
    unfold routeI at hp
    by_cases a1 : y.f0 ≤ c <;> by_cases a2 : y.f0 ≤ c' <;> simp [a1, a2] at hp ⊢
theorem other_one {n : Nat} {S : List S46} (h : Fine n S) (v f t c : Int) (b : Bool) (hr : Rest f t c b) (hv : 1 ≤ v ∧ v ≤ 3) (hm : ¬ (f = t ∧ f = v)) :
    other f t c (oneI v f t c b S).1 (oneI v f t c b S).2.1 (oneI v f t c b S).2.2.1 S ≤ 1 := by
  unfold oneI
  by_cases hft : f = t
  · rw [if_pos hft]
    subst hft
    obtain ⟨rfl, rfl⟩ := hr rfl
    have hc : cmpI v f = -1 ∨ cmpI v f = 1 := by
      unfold cmpI
      by_cases a : v < f
      · rw [if_pos a]; exact Or.inl rfl
      · rw [if_neg a, if_pos (by omega)]; exact Or.inr rfl
    have hb : beginI f f 0 false v = (f, wrap64 (f + cmpI v f), 0, false, 0) := by
      unfold beginI
      rw [if_neg (by omega), if_neg (by simp)]
    rw [hb]
    simp only
    have hne : f ≠ wrap64 (f + cmpI v f) := by
      unfold wrap64
      omega
    have := other_step h f (wrap64 (f + cmpI v f)) 0 false hne
    refine Nat.le_trans (Nat.le_of_eq ?_) this
    unfold other
    refine List.countP_congr fun y hy => ?_
    have hp := (h.2.1 y hy).1
    unfold routeI
    rw [if_neg (show ¬ y.f0 ≤ 0 by omega)]
    rw [if_neg (show ¬ y.f0 ≤ 0 by omega)]
  · rw [if_neg hft]
    exact other_step h f t c b hft
/-- As many steps as are left. -/
theorem walk_left {n : Nat} {S : List S46} (h : Fine n S) (v : Int) : ∀ (d x m : Nat) (f t c : Int) (b : Bool), f ≠ t → left f t c b S = d → walkI (d + x) v m f t c b S = walkI x v (m + d) (if b = true then f else t) (if b = true then f else t) 0 false S
  | d, x, m, f, t, c, b, hft, hd => by
    have hs := left_step h f t c b hft
    cases d with
    | zero => omega
    | succ d =>
      rw [show d + 1 + x = (d + x) + 1 by omega]
      conv => lhs; unfold walkI
      rw [if_neg (by omega)]
      unfold oneI
      rw [if_neg hft]
      rcases step_cases f t c b S (fine_nums h) hft with ⟨h0, e⟩ | ⟨c', e, h1, h2, _⟩
      · rw [e]
        simp only
        have : d = 0 := by
          have : left f t c b S = (pick c b S).length + 1 := by unfold left; rw [if_neg hft]
          omega
        subst this
        rw [Nat.zero_add]
      · rw [e] at hs ⊢
        simp only at hs ⊢
        rw [walk_left h v d x (m + 1) f t c' b hft (by omega), show m + 1 + d = m + (d + 1) by omega]
theorem walk_stay (v : Int) (S : List S46) (x m : Nat) : walkI x v m v v 0 false S = (v, v, 0, false, (m : Int)) := by
  cases x with
  | zero => rfl
  | succ x => unfold walkI; rw [if_pos ⟨rfl, rfl⟩]
theorem walk_begin (u v : Int) (hu : 1 ≤ u ∧ u ≤ 3) (hv : 1 ≤ v ∧ v ≤ 3) (hne : v ≠ u) (S : List S46) (x m : Nat) : walkI (x + 1) u m v v 0 false S = walkI (x + 1) u m v (v + cmpI u v) 0 false S ∧ v ≠ v + cmpI u v ∧ 1 ≤ v + cmpI u v ∧ v + cmpI u v ≤ 3 ∧ (v + cmpI u v - u).natAbs < (v - u).natAbs := by
  have hc : (u < v ∧ cmpI u v = -1) ∨ (v < u ∧ cmpI u v = 1) := by
    unfold cmpI
    by_cases a : u < v
    · rw [if_pos a]; exact Or.inl ⟨a, rfl⟩
    · rw [if_neg a, if_pos (by omega)]; exact Or.inr ⟨by omega, rfl⟩
  refine ⟨?_, by omega, by omega, by omega, by omega⟩
  have h1 : oneI u v v 0 false S = oneI u v (v + cmpI u v) 0 false S := by
    unfold oneI
    rw [if_pos rfl, if_neg (by omega)]
    have hb : beginI v v 0 false u = (v, v + cmpI u v, 0, false, 0) := by
      unfold beginI
      rw [if_neg (by omega), if_neg (by simp), w64 _ (by omega)]
    rw [hb]
  unfold walkI
  rw [if_neg (by omega), if_neg (by omega), h1]
theorem left_len (f t c : Int) (b : Bool) (S : List S46) : left f t c b S ≤ S.length + 1 := by
  unfold left
  split
  · omega
  · have := pick_le c b S
    omega
theorem left_pos (f t c : Int) (b : Bool) (S : List S46) (h : f ≠ t) : 1 ≤ left f t c b S := by
  unfold left
  rw [if_neg h]
  omega
theorem walk_all {n : Nat} {S : List S46} (h : Fine n S) (u : Int) (hu : 1 ≤ u ∧ u ≤ 3) : ∀ (e : Nat) (v : Int) (m x : Nat), 1 ≤ v ∧ v ≤ 3 → (v - u).natAbs = e → e * (S.length + 1) ≤ x → ∃ k, k ≤ e * (S.length + 1) ∧ walkI x u m v v 0 false S = (u, u, 0, false, ((m + k : Nat) : Int))
  | 0, v, m, x, hv, he, hx => by
    have : v = u := by omega
    subst this
    exact ⟨0, Nat.zero_le _, walk_stay _ _ _ _⟩
  | e + 1, v, m, x, hv, he, hx => by
    have hne : v ≠ u := by intro hh; subst hh; simp at he
    rw [Nat.add_mul, Nat.one_mul] at hx
    obtain ⟨x, rfl⟩ : ∃ y, x = y + 1 := ⟨x - 1, by omega⟩
    obtain ⟨h1, h2, h3, h4, h5⟩ := walk_begin u v hu hv hne S x m
    have hl := left_len v (v + cmpI u v) 0 false S
    obtain ⟨d, hd⟩ : ∃ d, left v (v + cmpI u v) 0 false S = d := ⟨_, rfl⟩
    have hc : cmpI u v = -1 ∨ cmpI u v = 1 := by
      unfold cmpI
      by_cases a : u < v
      · rw [if_pos a]; exact Or.inl rfl
      · rw [if_neg a, if_pos (by omega)]; exact Or.inr rfl
    obtain ⟨k, hk, ek⟩ := walk_all h u hu e (v + cmpI u v) (m + d) (x + 1 - d) ⟨h3, h4⟩ (by have := h5; unfold cmpI at this ⊢; split at this <;> split <;> omega) (by omega)
    refine ⟨d + k, by rw [Nat.add_mul, Nat.one_mul]; omega, ?_⟩
    rw [h1, show x + 1 = d + (x + 1 - d) by omega, walk_left h u d _ m v (v + cmpI u v) 0 false h2 hd]
    simp only [Bool.false_eq_true, if_false]
    rw [ek, Nat.add_assoc]
/-- The law of walks. -/
theorem walks_law {S : List S46} (h : Fine 6 S) (u v : Int) (hu : 1 ≤ u ∧ u ≤ 3) (hv : 1 ≤ v ∧ v ≤ 3) :
    ∃ k : Nat, k ≤ 2 * (S.length + 1) ∧ goI v v 0 false S u 100 = (u, u, 0, false, (k : Int)) ∧ ∀ i : Nat, i < k → ∃ f t c b f' t' c' b' n n', goI v v 0 false S u (i : Int) = (f, t, c, b, n) ∧ goI v v 0 false S u ((i : Int) + 1) = (f', t', c', b', n') ∧ other f t c f' t' c' S ≤ 1 := by
  have h6 := h.1
  obtain ⟨k, hk, e⟩ := walk_all h u hu (v - u).natAbs v 0 100 hv rfl (by
    have : (v - u).natAbs ≤ 2 := by omega
    have := Nat.mul_le_mul this (show S.length + 1 ≤ 7 by omega)
    omega)
  have hgo : ∀ (m : Nat), goI v v 0 false S u (m : Int) = walkI m u 0 v v 0 false S := by
    intro m
    unfold goI
    rw [if_neg (by omega), Int.toNat_natCast]
  refine ⟨k, Nat.le_trans hk (Nat.mul_le_mul (by omega) (Nat.le_refl _)), ?_, fun i hi => ?_⟩
  · rw [show (100 : Int) = ((100 : Nat) : Int) by rfl, hgo, e, Nat.zero_add]
  · obtain ⟨f, t, c, b, j, h1, h2, h3, h4, h5⟩ := walk_parts u S i v v 0 false
    rw [hgo, show (i : Int) + 1 = ((i + 1 : Nat) : Int) by omega, hgo, h2, h3 1]
    have hr := h5 (fun _ => ⟨rfl, rfl⟩)
    unfold walkI
    by_cases hs : f = t ∧ f = u
    · rw [if_pos hs]
      exact ⟨f, t, c, b, f, t, c, b, _, _, rfl, rfl, by rw [other_none _ _ _ _ _ _ _ (fun _ _ => rfl)]; omega⟩
    · rw [if_neg hs]
      exact ⟨f, t, c, b, _, _, _, _, _, _, rfl, rfl, other_one h u f t c b hr hu hs⟩
end Go.Proofs.Ytajfefjmfelnbaa
