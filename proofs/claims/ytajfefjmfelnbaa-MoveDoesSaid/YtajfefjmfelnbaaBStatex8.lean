/- Printed (wip/gprint.py). -/
import Derived.Test.YtajfefjmfelnbaaBStatex0
import Derived.Test.YtajfefjmfelnbaaBStatex1
import Derived.Test.YtajfefjmfelnbaaBStatex5
import Derived.Test.YtajfefjmfelnbaaBStatex6
namespace Go.Proofs.Ytajfefjmfelnbaa.BState
open Go.RowKit Go.Proofs.YtajfefjmfelnbaaW.PrintWords Go.Proofs.YtajfefjmfelnbaaW.PrintLast Go.Proofs.YtajfefjmfelnbaaW.PrintMore
attribute [local go_sem] max2_int min2_int max_two min_two max_three min_three max_four min_four   -- for this text's walks alone
set_option linter.unusedVariables false
set_option linter.unusedSimpArgs false

/-! ### roadsteadlaw10_State: function 11 -/
mutual
def roadsteadlaw10_State.l0 : Nat → List Int → Int → Int → Int → Int → List (S46) → Option (Int × Int × Int × (List (S46)))
  | 0, _, _, _, _, _, _ => none
  | k + 1, x0, x4, x202000, x202001, x202002, x202003 => if x4 < 6 then (roadsteadlaw10_State.j1 k x0 x4 (decide (x202002 > 0)) x202000 x202001 x202002 x202003) else (roadsteadlaw10_State.j1 k x0 x4 false x202000 x202001 x202002 x202003)
def roadsteadlaw10_State.j1 : Nat → List Int → Int → Bool → Int → Int → Int → List (S46) → Option (Int × Int × Int × (List (S46)))
  | 0, _, _, _, _, _, _, _ => none
  | k + 1, x0, x4, x25, x202000, x202001, x202002, x202003 => if x25 = true then (if (mn (x0.length : Int) (wrap64 (3 + (wrap64 (24 * x4))))) = (mn (x0.length : Int) (wrap64 (27 + (wrap64 (24 * x4))))) then (some (x202000, x202001, x202002, x202003)) else (if 0 ≤ (mn (x0.length : Int) (wrap64 (3 + (wrap64 (24 * x4))))) then (if (mn (x0.length : Int) (wrap64 (3 + (wrap64 (24 * x4))))) < (x0.length : Int) then (if x202002 = 0 then (none) else (if (mn (x0.length : Int) (wrap64 (3 + (wrap64 (24 * x4))))) ≤ (mn (x0.length : Int) (wrap64 (27 + (wrap64 (24 * x4))))) then (if (mn (x0.length : Int) (wrap64 (27 + (wrap64 (24 * x4))))) ≤ (x0.length : Int) then ((roadsteadlaw10_Sub.f k ((x0.take ((mn (x0.length : Int) (wrap64 (27 + (wrap64 (24 * x4))))) : Int).toNat).drop ((mn (x0.length : Int) (wrap64 (3 + (wrap64 (24 * x4))))) : Int).toNat) (wrap64 (1 + (Int.tmod (wrap64 (rd x0 (mn (x0.length : Int) (wrap64 (3 + (wrap64 (24 * x4))))))) x202002))) x202000 x202001).bind fun bt204 => ((roadsteadref10_Put.f k x202000 x202001 x202002 x202003 bt204.1 bt204.2.1 bt204.2.2.1 bt204.2.2.2.1 bt204.2.2.2.2.1 bt204.2.2.2.2.2.1 bt204.2.2.2.2.2.2.1 bt204.2.2.2.2.2.2.2.1 bt204.2.2.2.2.2.2.2.2.1 bt204.2.2.2.2.2.2.2.2.2).bind fun bt218 => (roadsteadlaw10_State.l0 k x0 (wrap64 (x4 + 1)) bt218.1 bt218.2.1 bt218.2.2.1 bt218.2.2.2))) else (none)) else (none))) else (none)) else (none))) else (some (x202000, x202001, x202002, x202003))
end
def roadsteadlaw10_State.f (k : Nat) (l0 : List Int) : Option (Int × Int × Int × (List (S46))) := (roadsteadlaw10_g.f l0 0).bind fun t198 => ((roadsteadlaw10_g.f l0 1).bind fun t199 => ((roadsteadlaw10_g.f l0 2).bind fun t200 => (roadsteadlaw10_State.l0 k l0 0 (wrap64 (t198 * 7)) (wrap64 (1 + (wrap64 (Int.tdiv t199 4)))) (Int.tmod t200 8) ([] : List (S46)))))
theorem roadsteadlaw10_State.mono_l : ∀ k, (∀ y0 y1 y2 y3 y4 y5, LeO (roadsteadlaw10_State.l0 k y0 y1 y2 y3 y4 y5) (roadsteadlaw10_State.l0 (k + 1) y0 y1 y2 y3 y4 y5)) ∧ (∀ y0 y1 y2 y3 y4 y5 y6, LeO (roadsteadlaw10_State.j1 k y0 y1 y2 y3 y4 y5 y6) (roadsteadlaw10_State.j1 (k + 1) y0 y1 y2 y3 y4 y5 y6))
  | 0 => ⟨fun _ _ _ _ _ _ r h => by simp [roadsteadlaw10_State.l0] at h, fun _ _ _ _ _ _ _ r h => by simp [roadsteadlaw10_State.j1] at h⟩
  | k + 1 => by
    obtain ⟨ih0, ih1⟩ := roadsteadlaw10_State.mono_l k
    refine ⟨?_, ?_⟩
    · intro y0 y1 y2 y3 y4 y5
      unfold roadsteadlaw10_State.l0
      repeat' first
      | (with_reducible exact ih0 _ _ _ _ _ _)
      | (with_reducible exact ih1 _ _ _ _ _ _ _)
      | (with_reducible exact roadsteadlaw10_Sub.mono _ _ _ _ _)
      | (with_reducible exact roadsteadref10_Put.mono _ _ _ _ _ _ _ _ _ _ _ _ _ _ _)
      | (with_reducible exact LeO.refl _)
      | (with_reducible exact LeO.none _)
      | (with_reducible refine LeO.ite ?_ ?_)
      | (with_reducible refine LeO.bind ?_ (fun _ => ?_))
      | exact ih0 _ _ _ _ _ _
      | exact ih1 _ _ _ _ _ _ _
      | exact roadsteadlaw10_Sub.mono _ _ _ _ _
      | exact roadsteadref10_Put.mono _ _ _ _ _ _ _ _ _ _ _ _ _ _ _
      | exact LeO.none _
      | refine LeO.ite ?_ ?_
      | refine LeO.bind ?_ (fun _ => ?_)
    · intro y0 y1 y2 y3 y4 y5 y6
      unfold roadsteadlaw10_State.j1
      repeat' first
      | (with_reducible exact ih0 _ _ _ _ _ _)
      | (with_reducible exact ih1 _ _ _ _ _ _ _)
      | (with_reducible exact roadsteadlaw10_Sub.mono _ _ _ _ _)
      | (with_reducible exact roadsteadref10_Put.mono _ _ _ _ _ _ _ _ _ _ _ _ _ _ _)
      | (with_reducible exact LeO.refl _)
      | (with_reducible exact LeO.none _)
      | (with_reducible refine LeO.ite ?_ ?_)
      | (with_reducible refine LeO.bind ?_ (fun _ => ?_))
      | exact ih0 _ _ _ _ _ _
      | exact ih1 _ _ _ _ _ _ _
      | exact roadsteadlaw10_Sub.mono _ _ _ _ _
      | exact roadsteadref10_Put.mono _ _ _ _ _ _ _ _ _ _ _ _ _ _ _
      | exact LeO.none _
      | refine LeO.ite ?_ ?_
      | refine LeO.bind ?_ (fun _ => ?_)
theorem roadsteadlaw10_State.mono : ∀ a0 k, LeO (roadsteadlaw10_State.f k a0) (roadsteadlaw10_State.f (k + 1) a0) := by
  intro a0 k
  obtain ⟨ih0, ih1⟩ := roadsteadlaw10_State.mono_l k
  unfold roadsteadlaw10_State.f
  repeat' first
      | (with_reducible exact ih0 _ _ _ _ _ _)
      | (with_reducible exact ih1 _ _ _ _ _ _ _)
      | (with_reducible exact roadsteadlaw10_Sub.mono _ _ _ _ _)
      | (with_reducible exact roadsteadref10_Put.mono _ _ _ _ _ _ _ _ _ _ _ _ _ _ _)
      | (with_reducible exact LeO.refl _)
      | (with_reducible exact LeO.none _)
      | (with_reducible refine LeO.ite ?_ ?_)
      | (with_reducible refine LeO.bind ?_ (fun _ => ?_))
      | exact ih0 _ _ _ _ _ _
      | exact ih1 _ _ _ _ _ _ _
      | exact roadsteadlaw10_Sub.mono _ _ _ _ _
      | exact roadsteadref10_Put.mono _ _ _ _ _ _ _ _ _ _ _ _ _ _ _
      | exact LeO.none _
      | refine LeO.ite ?_ ?_
      | refine LeO.bind ?_ (fun _ => ?_)

end Go.Proofs.Ytajfefjmfelnbaa.BState
