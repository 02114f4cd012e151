/- MoveParts, the plain law: so many steps, and then so many more, are all of them at once. -/
import Derived.Test.YtajfefjmfelnbaaMovePure
namespace Go.Proofs.Ytajfefjmfelnbaa
open Go.RowKit Go.Proofs.YtajfefjmfelnbaaW.PrintWords Go.Proofs.YtajfefjmfelnbaaW.PrintLast Go.Proofs.YtajfefjmfelnbaaW.PrintMore BState
set_option linter.unusedVariables false
/-- Who is not on the way has no cursor. -/
def Rest (f t c : Int) (b : Bool) : Prop := f = t → c = 0 ∧ b = false
theorem rest_step (f t c : Int) (b : Bool) (l : List S46) (h : Rest f t c b) : Rest (stepI f t c b l).1 (stepI f t c b l).2.1 (stepI f t c b l).2.2.1 (stepI f t c b l).2.2.2.1 := by
  unfold stepI
  split
  · exact h
  · split
    · split <;> exact fun _ => ⟨rfl, rfl⟩
    · split <;> exact fun h => absurd h (by assumption)
theorem rest_begin (f t c : Int) (b : Bool) (w : Int) (h : Rest f t c b) : Rest (beginI f t c b w).1 (beginI f t c b w).2.1 (beginI f t c b w).2.2.1 (beginI f t c b w).2.2.2.1 := by
  unfold beginI
  split
  · exact h
  · split
    · exact h
    · exact fun _ => ⟨rfl, rfl⟩
theorem rest_one (v f t c : Int) (b : Bool) (l : List S46) (h : Rest f t c b) : Rest (oneI v f t c b l).1 (oneI v f t c b l).2.1 (oneI v f t c b l).2.2.1 (oneI v f t c b l).2.2.2.1 := by
  unfold oneI
  split
  · exact rest_step _ _ _ _ _ (rest_begin _ _ _ _ _ h)
  · exact rest_step _ _ _ _ _ h
theorem walk_parts (v : Int) (l : List S46) : ∀ (x : Nat) (f t c : Int) (b : Bool), ∃ (f' t' c' : Int) (b' : Bool) (i : Nat), i ≤ x ∧ (∀ n, walkI x v n f t c b l = (f', t', c', b', ((n + i : Nat) : Int))) ∧ (∀ y n, walkI (x + y) v n f t c b l = walkI y v (n + i) f' t' c' b' l) ∧ (i < x → f' = t' ∧ f' = v) ∧ (Rest f t c b → Rest f' t' c' b')
  | 0, f, t, c, b => ⟨f, t, c, b, 0, Nat.le_refl _, fun n => rfl, fun y n => by rw [Nat.zero_add]; rfl, fun h => absurd h (Nat.lt_irrefl _), id⟩
  | x + 1, f, t, c, b => by
    by_cases h : f = t ∧ f = v
    · refine ⟨f, t, c, b, 0, Nat.zero_le _, fun n => by unfold walkI; rw [if_pos h]; rfl, fun y n => ?_, fun _ => h, id⟩
      rw [show x + 1 + y = (x + y) + 1 by omega]
      have e : ∀ d, walkI d v n f t c b l = (f, t, c, b, (n : Int)) := by
        intro d
        cases d with
        | zero => rfl
        | succ d => unfold walkI; rw [if_pos h]
      rw [e, Nat.add_zero, e]
    · obtain ⟨f', t', c', b', i, h1, h2, h3, h4, h5⟩ := walk_parts v l x (oneI v f t c b l).1 (oneI v f t c b l).2.1 (oneI v f t c b l).2.2.1 (oneI v f t c b l).2.2.2.1
      refine ⟨f', t', c', b', i + 1, by omega, fun n => ?_, fun y n => ?_, fun h => h4 (by omega), fun h => h5 (rest_one _ _ _ _ _ _ h)⟩
      · conv => lhs; unfold walkI
        rw [if_neg h, h2, show n + 1 + i = n + (i + 1) by omega]
      · rw [show x + 1 + y = (x + y) + 1 by omega]
        conv => lhs; unfold walkI
        rw [if_neg h, h3, show n + 1 + i = n + (i + 1) by omega]
/-- The law of parts. -/
theorem parts_law (l : List S46) (v : Int) (hv : 1 ≤ v ∧ v ≤ 3) (x y : Nat) (f t c : Int) (b : Bool) (hr : Rest f t c b) : ∃ (f1 t1 c1 : Int) (b1 : Bool) (i : Nat) (f2 t2 c2 : Int) (b2 : Bool) (j : Nat), i ≤ x ∧ j ≤ y ∧ goI f t c b l v x = (f1, t1, c1, b1, (i : Int)) ∧ goI f1 t1 c1 b1 l v y = (f2, t2, c2, b2, (j : Int)) ∧ goI f t c b l v ((x : Int) + y) = (f2, t2, c2, b2, ((i + j : Nat) : Int)) ∧ goI f t c b l 4 x = (f, t, c, b, 0) ∧ (i + j = x + y ∨ (f2 = v ∧ t2 = v ∧ c2 = 0 ∧ b2 = false)) := by
  obtain ⟨f1, t1, c1, b1, i, hi, e1, e2, e3, e4⟩ := walk_parts v l x f t c b
  obtain ⟨f2, t2, c2, b2, j, hj, g1, g2, g3, g4⟩ := walk_parts v l y f1 t1 c1 b1
  have hgo : ∀ (f t c : Int) (b : Bool) (m : Nat), goI f t c b l v (m : Int) = walkI m v 0 f t c b l := by
    intro f t c b m
    unfold goI
    rw [if_neg (by omega), Int.toNat_natCast]
  refine ⟨f1, t1, c1, b1, i, f2, t2, c2, b2, j, hi, hj, ?_, ?_, ?_, ?_, ?_⟩
  · rw [hgo, e1, Nat.zero_add]
  · rw [hgo, g1, Nat.zero_add]
  · rw [show (x : Int) + y = ((x + y : Nat) : Int) by omega, hgo, e2, g1, Nat.zero_add]
  · unfold goI; rw [if_pos (by omega)]
  · by_cases h : i + j = x + y
    · exact Or.inl h
    · right
      have hr2 := g4 (e4 hr)
      have hst : f2 = t2 ∧ f2 = v := by
        by_cases hjy : j < y
        · exact g3 hjy
        · have hix : i < x := by omega
          have h1 := e3 hix
          have g1' := g1 0
          have e : ∀ d, walkI d v 0 f1 t1 c1 b1 l = (f1, t1, c1, b1, ((0 : Nat) : Int)) := by
            intro d
            cases d with
            | zero => rfl
            | succ d => unfold walkI; rw [if_pos h1]
          rw [e] at g1'
          injection g1' with a1 a2
          injection a2 with a2 a3
          exact ⟨by rw [← a1, ← a2]; exact h1.1, by rw [← a1]; exact h1.2⟩
      have := hr2 hst.1
      exact ⟨hst.2, by rw [← hst.1]; exact hst.2, this.1, this.2⟩
theorem mix_rest (k : Int) (h0 : 0 ≤ k) (h1 : k ≤ 255) : Rest (mixI k).1 (mixI k).2.1 (mixI k).2.2.1 (mixI k).2.2.2 := by
  unfold mixI
  split
  · intro h
    exfalso
    simp only [mixTo] at h
    split at h <;> omega
  · exact fun _ => ⟨rfl, rfl⟩
end Go.Proofs.Ytajfefjmfelnbaa
