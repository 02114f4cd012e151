/- Printed (wip/gprint.py). -/
import Derived.Test.YtajfefjmfelnbaaBStatex1
import Derived.Test.YtajfefjmfelnbaaBStatex2
namespace Go.Proofs.Ytajfefjmfelnbaa.BState
open Go.RowKit Go.Proofs.YtajfefjmfelnbaaW.PrintWords Go.Proofs.YtajfefjmfelnbaaW.PrintLast Go.Proofs.YtajfefjmfelnbaaW.PrintMore
attribute [local go_sem] max2_int min2_int max_two min_two max_three min_three max_four min_four   -- for this text's walks alone
set_option linter.unusedVariables false
set_option linter.unusedSimpArgs false

/-! ### roadsteadlaw10_Sub: function 24 -/
mutual
def roadsteadlaw10_Sub.j0 : Nat → List Int → Int → Int → Int → ByteArray → ByteArray → ByteArray → Int → Int → Int → ByteArray → Option (Int × ByteArray × ByteArray × ByteArray × Int × Int × Int × List Int × (List (S68)) × ByteArray)
  | 0, _, _, _, _, _, _, _, _, _, _, _ => none
  | k + 1, x0, x2, x3, x158000, x158001, x158002, x158003, x158004, x158005, x158006, x158009 => roadsteadlaw10_Sub.l0 k x0 x2 x3 x158006 6 x158000 x158001 x158002 x158003 x158004 x158005 x158006 ([] : List Int) ([] : List (S68)) x158009
def roadsteadlaw10_Sub.l0 : Nat → List Int → Int → Int → Int → Int → Int → ByteArray → ByteArray → ByteArray → Int → Int → Int → List Int → List (S68) → ByteArray → Option (Int × ByteArray × ByteArray × ByteArray × Int × Int × Int × List Int × (List (S68)) × ByteArray)
  | 0, _, _, _, _, _, _, _, _, _, _, _, _, _, _, _ => none
  | k + 1, x0, x2, x3, x10, x11, x158000, x158001, x158002, x158003, x158004, x158005, x158006, x158007, x158008, x158009 => if (wrap64 (x11 + 3)) < (x0.length : Int) then (roadsteadlaw10_Sub.j2 k x0 x2 x3 x10 x11 (decide (x11 < 66)) x158000 x158001 x158002 x158003 x158004 x158005 x158006 x158007 x158008 x158009) else (roadsteadlaw10_Sub.j2 k x0 x2 x3 x10 x11 false x158000 x158001 x158002 x158003 x158004 x158005 x158006 x158007 x158008 x158009)
def roadsteadlaw10_Sub.j2 : Nat → List Int → Int → Int → Int → Int → Bool → Int → ByteArray → ByteArray → ByteArray → Int → Int → Int → List Int → List (S68) → ByteArray → Option (Int × ByteArray × ByteArray × ByteArray × Int × Int × Int × List Int × (List (S68)) × ByteArray)
  | 0, _, _, _, _, _, _, _, _, _, _, _, _, _, _, _, _ => none
  | k + 1, x0, x2, x3, x10, x11, x61, x158000, x158001, x158002, x158003, x158004, x158005, x158006, x158007, x158008, x158009 => if x61 = true then (if 0 ≤ x11 then (if x11 < (x0.length : Int) then (if (wrap64 (x10 + (wrap64 (1 + (wrap64 (Int.tmod (rd x0 x11) 3)))))) ≥ x3 then (some (x158000, x158001, x158002, x158003, x158004, x158005, x158006, x158007, x158008, x158009)) else (if (rd x0 x11) > 200 then (roadsteadlaw10_Sub.j3 k x0 x2 x3 (wrap64 (x10 + (wrap64 (1 + (wrap64 (Int.tmod (rd x0 x11) 3)))))) x11 (decide ((x158007.length : Int) < 20)) x158000 x158001 x158002 x158003 x158004 x158005 x158006 x158007 x158008 x158009) else (roadsteadlaw10_Sub.j3 k x0 x2 x3 (wrap64 (x10 + (wrap64 (1 + (wrap64 (Int.tmod (rd x0 x11) 3)))))) x11 false x158000 x158001 x158002 x158003 x158004 x158005 x158006 x158007 x158008 x158009))) else (none)) else (none)) else (some (x158000, x158001, x158002, x158003, x158004, x158005, x158006, x158007, x158008, x158009))
def roadsteadlaw10_Sub.j3 : Nat → List Int → Int → Int → Int → Int → Bool → Int → ByteArray → ByteArray → ByteArray → Int → Int → Int → List Int → List (S68) → ByteArray → Option (Int × ByteArray × ByteArray × ByteArray × Int × Int × Int × List Int × (List (S68)) × ByteArray)
  | 0, _, _, _, _, _, _, _, _, _, _, _, _, _, _, _, _ => none
  | k + 1, x0, x2, x3, x10, x11, x86, x158000, x158001, x158002, x158003, x158004, x158005, x158006, x158007, x158008, x158009 => if x86 = true then (if x158007.length < 17592186044416 then (roadsteadlaw10_Sub.l0 k x0 x2 x3 x10 (wrap64 (x11 + 4)) x158000 x158001 x158002 x158003 x158004 x158005 x158006 (x158007 ++ [x10]) x158008 x158009) else (none)) else (if (x158008.length : Int) = 30 then (some (x158000, x158001, x158002, x158003, x158004, x158005, x158006, x158007, x158008, x158009)) else (if 0 ≤ (wrap64 (x11 + 1)) then (if (wrap64 (x11 + 1)) < (x0.length : Int) then ((roadsteadlaw10_text.f k (wrap64 (rd x0 (wrap64 (x11 + 1)))) 60).bind fun t167 => ((some (([(⟨#[]⟩ : ByteArray), (⟨#[97, 61, 49]⟩ : ByteArray), (⟨#[98, 61, 50]⟩ : ByteArray)] : List ByteArray) : List ByteArray)).bind fun y168 => (if 0 ≤ (wrap64 (x11 + 2)) then (if (wrap64 (x11 + 2)) < (x0.length : Int) then (if 0 ≤ (Int.tmod (rd x0 (wrap64 (x11 + 2))) 3) then (if (Int.tmod (rd x0 (wrap64 (x11 + 2))) 3) < (y168.length : Int) then (if (rd x0 (wrap64 (x11 + 2))) > 128 then (roadsteadlaw10_Sub.j4 k x0 x2 x3 x10 x11 x158000 x158001 x158002 x158003 x158004 x158005 x158006 x158007 x158008 x158009 x10 t167 (rdOf ByteArray.empty y168 (Int.tmod (rd x0 (wrap64 (x11 + 2))) 3)) 0 0 false (⟨#[]⟩ : ByteArray) (Int.tmod (wrap64 (rd x0 (wrap64 (x11 + 2)))) 10)) else (roadsteadlaw10_Sub.j4 k x0 x2 x3 x10 x11 x158000 x158001 x158002 x158003 x158004 x158005 x158006 x158007 x158008 x158009 x10 t167 (rdOf ByteArray.empty y168 (Int.tmod (rd x0 (wrap64 (x11 + 2))) 3)) 0 0 false (⟨#[]⟩ : ByteArray) 0)) else (none)) else (none)) else (none)) else (none)))) else (none)) else (none)))
def roadsteadlaw10_Sub.j4 : Nat → List Int → Int → Int → Int → Int → Int → ByteArray → ByteArray → ByteArray → Int → Int → Int → List Int → List (S68) → ByteArray → Int → ByteArray → ByteArray → Int → Int → Bool → ByteArray → Int → Option (Int × ByteArray × ByteArray × ByteArray × Int × Int × Int × List Int × (List (S68)) × ByteArray)
  | 0, _, _, _, _, _, _, _, _, _, _, _, _, _, _, _, _, _, _, _, _, _, _, _ => none
  | k + 1, x0, x2, x3, x10, x11, x158000, x158001, x158002, x158003, x158004, x158005, x158006, x158007, x158008, x158009, x174000, x174001, x174002, x174003, x174004, x174005, x174006, x174007 => if 0 ≤ (wrap64 (x11 + 3)) then (if (wrap64 (x11 + 3)) < (x0.length : Int) then (if (Int.tmod (rd x0 (wrap64 (x11 + 3))) 4) = 0 then (if x158005 = 0 then (none) else (if x158008.length < 1599289640401 then (roadsteadlaw10_Sub.l0 k x0 x2 x3 x10 (wrap64 (x11 + 4)) x158000 x158001 x158002 x158003 x158004 x158005 x158006 x158007 (x158008 ++ [(⟨x174000, x174001, x174002, Int.tmod (wrap64 (rd x0 (wrap64 (x11 + 3)))) x158005, x174004, x174005, x174006, x174007⟩ : S68)]) x158009) else (none))) else (if (Int.tmod (rd x0 (wrap64 (x11 + 3))) 4) = 1 then (if x158005 = 0 then (none) else (if 0 ≤ (wrap64 (x11 + 1)) then (if (wrap64 (x11 + 1)) < (x0.length : Int) then (if x158004 = 0 then (none) else (if x158008.length < 1599289640401 then (roadsteadlaw10_Sub.l0 k x0 x2 x3 x10 (wrap64 (x11 + 4)) x158000 x158001 x158002 x158003 x158004 x158005 x158006 x158007 (x158008 ++ [(⟨x174000, x174001, x174002, wrap64 (1 + (Int.tmod (wrap64 (rd x0 (wrap64 (x11 + 3)))) x158005)), wrap64 ((wrap64 (x2 + 1)) + (Int.tmod (wrap64 (rd x0 (wrap64 (x11 + 1)))) x158004)), x174005, x174006, x174007⟩ : S68)]) x158009) else (none))) else (none)) else (none))) else (if (Int.tmod (rd x0 (wrap64 (x11 + 3))) 4) = 2 then ((some (([(⟨#[110, 97, 99, 107]⟩ : ByteArray), (⟨#[116, 105, 109, 101]⟩ : ByteArray)] : List ByteArray) : List ByteArray)).bind fun y186 => (if 0 ≤ (wrap64 (x11 + 1)) then (if (wrap64 (x11 + 1)) < (x0.length : Int) then (if 0 ≤ (Int.tmod (rd x0 (wrap64 (x11 + 1))) 2) then (if (Int.tmod (rd x0 (wrap64 (x11 + 1))) 2) < (y186.length : Int) then (if x158008.length < 1599289640401 then (roadsteadlaw10_Sub.l0 k x0 x2 x3 x10 (wrap64 (x11 + 4)) x158000 x158001 x158002 x158003 x158004 x158005 x158006 x158007 (x158008 ++ [(⟨x174000, x174001, x174002, x158005, x174004, true, rdOf ByteArray.empty y186 (Int.tmod (rd x0 (wrap64 (x11 + 1))) 2), x174007⟩ : S68)]) x158009) else (none)) else (none)) else (none)) else (none)) else (none))) else (if x158008.length < 1599289640401 then (roadsteadlaw10_Sub.l0 k x0 x2 x3 x10 (wrap64 (x11 + 4)) x158000 x158001 x158002 x158003 x158004 x158005 x158006 x158007 (x158008 ++ [(⟨x174000, x174001, x174002, x174003, x174004, x174005, x174006, x174007⟩ : S68)]) x158009) else (none))))) else (none)) else (none)
end
def roadsteadlaw10_Sub.f (k : Nat) (l0 : List Int) (a1 : Int) (a2 : Int) (a3 : Int) : Option (Int × ByteArray × ByteArray × ByteArray × Int × Int × Int × List Int × (List (S68)) × ByteArray) := (roadsteadlaw10_g.f l0 0).bind fun t142 => ((roadsteadlaw10_text.f k t142 19).bind fun t143 => (if 1 + t143.size ≤ 9223372036854775807 then ((some (([(⟨#[35]⟩ : ByteArray), (⟨#[97]⟩ : ByteArray), (⟨#[97, 47, 43]⟩ : ByteArray), (⟨#[98, 47, 35]⟩ : ByteArray)] : List ByteArray) : List ByteArray)).bind fun y144 => ((roadsteadlaw10_g.f l0 1).bind fun t147 => (if 0 ≤ (Int.tmod t147 4) then (if (Int.tmod t147 4) < (y144.length : Int) then ((some (([(⟨#[]⟩ : ByteArray), (⟨#[97, 61, 49]⟩ : ByteArray), (⟨#[97, 61, 49, 44, 98, 61, 50]⟩ : ByteArray)] : List ByteArray) : List ByteArray)).bind fun y149 => ((roadsteadlaw10_g.f l0 1).bind fun t152 => (if 0 ≤ (Int.tmod (wrap64 (Int.tdiv t152 4)) 3) then (if (Int.tmod (wrap64 (Int.tdiv t152 4)) 3) < (y149.length : Int) then ((roadsteadlaw10_g.f l0 2).bind fun t154 => ((roadsteadlaw10_g.f l0 3).bind fun t155 => ((roadsteadlaw10_g.f l0 4).bind fun t156 => (if a3 = 0 then (none) else ((roadsteadlaw10_g.f l0 5).bind fun t158 => (if t158 > 120 then ((roadsteadlaw10_g.f l0 5).bind fun t159 => ((roadsteadlaw10_text.f k t159 30).bind fun t160 => (roadsteadlaw10_Sub.j0 k l0 a2 a3 a1 ((⟨#[110]⟩ : ByteArray) ++ t143) (rdOf ByteArray.empty y144 (Int.tmod t147 4)) (rdOf ByteArray.empty y149 (Int.tmod (wrap64 (Int.tdiv t152 4)) 3)) (wrap64 (1 + (wrap64 (t154 * 3)))) (wrap64 (1 + (Int.tmod t155 9))) (Int.tmod t156 a3) t160))) else (roadsteadlaw10_Sub.j0 k l0 a2 a3 a1 ((⟨#[110]⟩ : ByteArray) ++ t143) (rdOf ByteArray.empty y144 (Int.tmod t147 4)) (rdOf ByteArray.empty y149 (Int.tmod (wrap64 (Int.tdiv t152 4)) 3)) (wrap64 (1 + (wrap64 (t154 * 3)))) (wrap64 (1 + (Int.tmod t155 9))) (Int.tmod t156 a3) (⟨#[]⟩ : ByteArray)))))))) else (none)) else (none)))) else (none)) else (none)))) else (none)))
theorem roadsteadlaw10_Sub.mono_l : ∀ k, (∀ y0 y1 y2 y3 y4 y5 y6 y7 y8 y9 y10, LeO (roadsteadlaw10_Sub.j0 k y0 y1 y2 y3 y4 y5 y6 y7 y8 y9 y10) (roadsteadlaw10_Sub.j0 (k + 1) y0 y1 y2 y3 y4 y5 y6 y7 y8 y9 y10)) ∧ (∀ y0 y1 y2 y3 y4 y5 y6 y7 y8 y9 y10 y11 y12 y13 y14, LeO (roadsteadlaw10_Sub.l0 k y0 y1 y2 y3 y4 y5 y6 y7 y8 y9 y10 y11 y12 y13 y14) (roadsteadlaw10_Sub.l0 (k + 1) y0 y1 y2 y3 y4 y5 y6 y7 y8 y9 y10 y11 y12 y13 y14)) ∧ (∀ y0 y1 y2 y3 y4 y5 y6 y7 y8 y9 y10 y11 y12 y13 y14 y15, LeO (roadsteadlaw10_Sub.j2 k y0 y1 y2 y3 y4 y5 y6 y7 y8 y9 y10 y11 y12 y13 y14 y15) (roadsteadlaw10_Sub.j2 (k + 1) y0 y1 y2 y3 y4 y5 y6 y7 y8 y9 y10 y11 y12 y13 y14 y15)) ∧ (∀ y0 y1 y2 y3 y4 y5 y6 y7 y8 y9 y10 y11 y12 y13 y14 y15, LeO (roadsteadlaw10_Sub.j3 k y0 y1 y2 y3 y4 y5 y6 y7 y8 y9 y10 y11 y12 y13 y14 y15) (roadsteadlaw10_Sub.j3 (k + 1) y0 y1 y2 y3 y4 y5 y6 y7 y8 y9 y10 y11 y12 y13 y14 y15)) ∧ (∀ y0 y1 y2 y3 y4 y5 y6 y7 y8 y9 y10 y11 y12 y13 y14 y15 y16 y17 y18 y19 y20 y21 y22, LeO (roadsteadlaw10_Sub.j4 k y0 y1 y2 y3 y4 y5 y6 y7 y8 y9 y10 y11 y12 y13 y14 y15 y16 y17 y18 y19 y20 y21 y22) (roadsteadlaw10_Sub.j4 (k + 1) y0 y1 y2 y3 y4 y5 y6 y7 y8 y9 y10 y11 y12 y13 y14 y15 y16 y17 y18 y19 y20 y21 y22))
  | 0 => ⟨fun _ _ _ _ _ _ _ _ _ _ _ r h => by simp [roadsteadlaw10_Sub.j0] at h, fun _ _ _ _ _ _ _ _ _ _ _ _ _ _ _ r h => by simp [roadsteadlaw10_Sub.l0] at h, fun _ _ _ _ _ _ _ _ _ _ _ _ _ _ _ _ r h => by simp [roadsteadlaw10_Sub.j2] at h, fun _ _ _ _ _ _ _ _ _ _ _ _ _ _ _ _ r h => by simp [roadsteadlaw10_Sub.j3] at h, fun _ _ _ _ _ _ _ _ _ _ _ _ _ _ _ _ _ _ _ _ _ _ _ r h => by simp [roadsteadlaw10_Sub.j4] at h⟩
  | k + 1 => by
    obtain ⟨ih0, ih1, ih2, ih3, ih4⟩ := roadsteadlaw10_Sub.mono_l k
    refine ⟨?_, ?_, ?_, ?_, ?_⟩
    · intro y0 y1 y2 y3 y4 y5 y6 y7 y8 y9 y10
      unfold roadsteadlaw10_Sub.j0
      repeat' first
      | (with_reducible exact ih0 _ _ _ _ _ _ _ _ _ _ _)
      | (with_reducible exact ih1 _ _ _ _ _ _ _ _ _ _ _ _ _ _ _)
      | (with_reducible exact ih2 _ _ _ _ _ _ _ _ _ _ _ _ _ _ _ _)
      | (with_reducible exact ih3 _ _ _ _ _ _ _ _ _ _ _ _ _ _ _ _)
      | (with_reducible exact ih4 _ _ _ _ _ _ _ _ _ _ _ _ _ _ _ _ _ _ _ _ _ _ _)
      | (with_reducible exact roadsteadlaw10_text.mono _ _ _)
      | (with_reducible exact LeO.refl _)
      | (with_reducible exact LeO.none _)
      | (with_reducible refine LeO.ite ?_ ?_)
      | (with_reducible refine LeO.bind ?_ (fun _ => ?_))
      | exact ih0 _ _ _ _ _ _ _ _ _ _ _
      | exact ih1 _ _ _ _ _ _ _ _ _ _ _ _ _ _ _
      | exact ih2 _ _ _ _ _ _ _ _ _ _ _ _ _ _ _ _
      | exact ih3 _ _ _ _ _ _ _ _ _ _ _ _ _ _ _ _
      | exact ih4 _ _ _ _ _ _ _ _ _ _ _ _ _ _ _ _ _ _ _ _ _ _ _
      | exact roadsteadlaw10_text.mono _ _ _
      | exact LeO.none _
      | refine LeO.ite ?_ ?_
      | refine LeO.bind ?_ (fun _ => ?_)
    · intro y0 y1 y2 y3 y4 y5 y6 y7 y8 y9 y10 y11 y12 y13 y14
      unfold roadsteadlaw10_Sub.l0
      repeat' first
      | (with_reducible exact ih0 _ _ _ _ _ _ _ _ _ _ _)
      | (with_reducible exact ih1 _ _ _ _ _ _ _ _ _ _ _ _ _ _ _)
      | (with_reducible exact ih2 _ _ _ _ _ _ _ _ _ _ _ _ _ _ _ _)
      | (with_reducible exact ih3 _ _ _ _ _ _ _ _ _ _ _ _ _ _ _ _)
      | (with_reducible exact ih4 _ _ _ _ _ _ _ _ _ _ _ _ _ _ _ _ _ _ _ _ _ _ _)
      | (with_reducible exact roadsteadlaw10_text.mono _ _ _)
      | (with_reducible exact LeO.refl _)
      | (with_reducible exact LeO.none _)
      | (with_reducible refine LeO.ite ?_ ?_)
      | (with_reducible refine LeO.bind ?_ (fun _ => ?_))
      | exact ih0 _ _ _ _ _ _ _ _ _ _ _
      | exact ih1 _ _ _ _ _ _ _ _ _ _ _ _ _ _ _
      | exact ih2 _ _ _ _ _ _ _ _ _ _ _ _ _ _ _ _
      | exact ih3 _ _ _ _ _ _ _ _ _ _ _ _ _ _ _ _
      | exact ih4 _ _ _ _ _ _ _ _ _ _ _ _ _ _ _ _ _ _ _ _ _ _ _
      | exact roadsteadlaw10_text.mono _ _ _
      | exact LeO.none _
      | refine LeO.ite ?_ ?_
      | refine LeO.bind ?_ (fun _ => ?_)
    · intro y0 y1 y2 y3 y4 y5 y6 y7 y8 y9 y10 y11 y12 y13 y14 y15
      unfold roadsteadlaw10_Sub.j2
      repeat' first
      | (with_reducible exact ih0 _ _ _ _ _ _ _ _ _ _ _)
      | (with_reducible exact ih1 _ _ _ _ _ _ _ _ _ _ _ _ _ _ _)
      | (with_reducible exact ih2 _ _ _ _ _ _ _ _ _ _ _ _ _ _ _ _)
      | (with_reducible exact ih3 _ _ _ _ _ _ _ _ _ _ _ _ _ _ _ _)
      | (with_reducible exact ih4 _ _ _ _ _ _ _ _ _ _ _ _ _ _ _ _ _ _ _ _ _ _ _)
      | (with_reducible exact roadsteadlaw10_text.mono _ _ _)
      | (with_reducible exact LeO.refl _)
      | (with_reducible exact LeO.none _)
      | (with_reducible refine LeO.ite ?_ ?_)
      | (with_reducible refine LeO.bind ?_ (fun _ => ?_))
      | exact ih0 _ _ _ _ _ _ _ _ _ _ _
      | exact ih1 _ _ _ _ _ _ _ _ _ _ _ _ _ _ _
      | exact ih2 _ _ _ _ _ _ _ _ _ _ _ _ _ _ _ _
      | exact ih3 _ _ _ _ _ _ _ _ _ _ _ _ _ _ _ _
      | exact ih4 _ _ _ _ _ _ _ _ _ _ _ _ _ _ _ _ _ _ _ _ _ _ _
      | exact roadsteadlaw10_text.mono _ _ _
      | exact LeO.none _
      | refine LeO.ite ?_ ?_
      | refine LeO.bind ?_ (fun _ => ?_)
    · intro y0 y1 y2 y3 y4 y5 y6 y7 y8 y9 y10 y11 y12 y13 y14 y15
      unfold roadsteadlaw10_Sub.j3
      repeat' first
      | (with_reducible exact ih0 _ _ _ _ _ _ _ _ _ _ _)
      | (with_reducible exact ih1 _ _ _ _ _ _ _ _ _ _ _ _ _ _ _)
      | (with_reducible exact ih2 _ _ _ _ _ _ _ _ _ _ _ _ _ _ _ _)
      | (with_reducible exact ih3 _ _ _ _ _ _ _ _ _ _ _ _ _ _ _ _)
      | (with_reducible exact ih4 _ _ _ _ _ _ _ _ _ _ _ _ _ _ _ _ _ _ _ _ _ _ _)
      | (with_reducible exact roadsteadlaw10_text.mono _ _ _)
      | (with_reducible exact LeO.refl _)
      | (with_reducible exact LeO.none _)
      | (with_reducible refine LeO.ite ?_ ?_)
      | (with_reducible refine LeO.bind ?_ (fun _ => ?_))
      | exact ih0 _ _ _ _ _ _ _ _ _ _ _
      | exact ih1 _ _ _ _ _ _ _ _ _ _ _ _ _ _ _
      | exact ih2 _ _ _ _ _ _ _ _ _ _ _ _ _ _ _ _
      | exact ih3 _ _ _ _ _ _ _ _ _ _ _ _ _ _ _ _
      | exact ih4 _ _ _ _ _ _ _ _ _ _ _ _ _ _ _ _ _ _ _ _ _ _ _
      | exact roadsteadlaw10_text.mono _ _ _
      | exact LeO.none _
      | refine LeO.ite ?_ ?_
      | refine LeO.bind ?_ (fun _ => ?_)
    · intro y0 y1 y2 y3 y4 y5 y6 y7 y8 y9 y10 y11 y12 y13 y14 y15 y16 y17 y18 y19 y20 y21 y22
      unfold roadsteadlaw10_Sub.j4
      repeat' first
      | (with_reducible exact ih0 _ _ _ _ _ _ _ _ _ _ _)
      | (with_reducible exact ih1 _ _ _ _ _ _ _ _ _ _ _ _ _ _ _)
      | (with_reducible exact ih2 _ _ _ _ _ _ _ _ _ _ _ _ _ _ _ _)
      | (with_reducible exact ih3 _ _ _ _ _ _ _ _ _ _ _ _ _ _ _ _)
      | (with_reducible exact ih4 _ _ _ _ _ _ _ _ _ _ _ _ _ _ _ _ _ _ _ _ _ _ _)
      | (with_reducible exact roadsteadlaw10_text.mono _ _ _)
      | (with_reducible exact LeO.refl _)
      | (with_reducible exact LeO.none _)
      | (with_reducible refine LeO.ite ?_ ?_)
      | (with_reducible refine LeO.bind ?_ (fun _ => ?_))
      | exact ih0 _ _ _ _ _ _ _ _ _ _ _
      | exact ih1 _ _ _ _ _ _ _ _ _ _ _ _ _ _ _
      | exact ih2 _ _ _ _ _ _ _ _ _ _ _ _ _ _ _ _
      | exact ih3 _ _ _ _ _ _ _ _ _ _ _ _ _ _ _ _
      | exact ih4 _ _ _ _ _ _ _ _ _ _ _ _ _ _ _ _ _ _ _ _ _ _ _
      | exact roadsteadlaw10_text.mono _ _ _
      | exact LeO.none _
      | refine LeO.ite ?_ ?_
      | refine LeO.bind ?_ (fun _ => ?_)
theorem roadsteadlaw10_Sub.mono : ∀ a0 a1 a2 a3 k, LeO (roadsteadlaw10_Sub.f k a0 a1 a2 a3) (roadsteadlaw10_Sub.f (k + 1) a0 a1 a2 a3) := by
  intro a0 a1 a2 a3 k
  obtain ⟨ih0, ih1, ih2, ih3, ih4⟩ := roadsteadlaw10_Sub.mono_l k
  unfold roadsteadlaw10_Sub.f
  repeat' first
      | (with_reducible exact ih0 _ _ _ _ _ _ _ _ _ _ _)
      | (with_reducible exact ih1 _ _ _ _ _ _ _ _ _ _ _ _ _ _ _)
      | (with_reducible exact ih2 _ _ _ _ _ _ _ _ _ _ _ _ _ _ _ _)
      | (with_reducible exact ih3 _ _ _ _ _ _ _ _ _ _ _ _ _ _ _ _)
      | (with_reducible exact ih4 _ _ _ _ _ _ _ _ _ _ _ _ _ _ _ _ _ _ _ _ _ _ _)
      | (with_reducible exact roadsteadlaw10_text.mono _ _ _)
      | (with_reducible exact LeO.refl _)
      | (with_reducible exact LeO.none _)
      | (with_reducible refine LeO.ite ?_ ?_)
      | (with_reducible refine LeO.bind ?_ (fun _ => ?_))
      | exact ih0 _ _ _ _ _ _ _ _ _ _ _
      | exact ih1 _ _ _ _ _ _ _ _ _ _ _ _ _ _ _
      | exact ih2 _ _ _ _ _ _ _ _ _ _ _ _ _ _ _ _
      | exact ih3 _ _ _ _ _ _ _ _ _ _ _ _ _ _ _ _
      | exact ih4 _ _ _ _ _ _ _ _ _ _ _ _ _ _ _ _ _ _ _ _ _ _ _
      | exact roadsteadlaw10_text.mono _ _ _
      | exact LeO.none _
      | refine LeO.ite ?_ ?_
      | refine LeO.bind ?_ (fun _ => ?_)
def roadsteadlaw10_Sub.T1 : Bool × List (List Nat × List Nat) := (true, [([], []), ([], []), ([1], [1]), ([2, 2], [2]), ([3], [3]), ([], []), ([], []), ([6, 3], [6]), ([7], [7]), ([5, 8], [5, 8]), ([9], [9]), ([], []), ([], []), ([12, 7], [12]), ([13], [13]), ([14], [14]), ([11, 15], [11, 15]), ([16], [16]), ([], []), ([18, 13], [18]), ([19], [19]), ([20], [20]), ([], []), ([22, 19], [22]), ([23], [23]), ([24], [24]), ([], []), ([26, 23], [26]), ([], []), ([27, 28], [27, 28]), ([0, 4, 10, 17, 21, 25, 29], [0, 4, 10, 17, 21, 25, 29]), ([], []), ([31, 30, 27, 0, 1, 2, 3, 4, 5, 6, 7, 8, 9, 10, 11, 12, 13, 14, 15, 16, 17, 18, 19, 20, 21, 22, 23, 24, 25, 26, 27, 28, 29, 30, 31], [30, 31])])
def roadsteadlaw10_Sub.B1 : List Nat := [0, 0, 2, 6, 14, 0, 0, 78, 206, 494, 1006, 0, 0, 4302, 12494, 28878, 63694, 129230, 0, 274638, 798926, 1847502, 0, 4993230, 13381838, 30159054, 0, 80490702, 0, 483143886, 1073741823, 0, 4294967295]
theorem roadsteadlaw10_Sub.tab1 : rtab .any (opsOf Try.f24 1) = roadsteadlaw10_Sub.T1 := by kernel_rfl
theorem roadsteadlaw10_Sub.bits1 : waitsOk roadsteadlaw10_Sub.T1.2 roadsteadlaw10_Sub.B1 = true := by kernel_rfl
def roadsteadlaw10_Sub.T13 : Bool × List (List Nat × List Nat) := (true, [([], []), ([], []), ([], []), ([2], [2]), ([1, 3], [1, 3]), ([4], [4]), ([5], [5]), ([6], [6]), ([], []), ([], []), ([], []), ([10], [10]), ([9, 11], [9, 11]), ([12], [12]), ([13], [13]), ([8, 14], [8, 14]), ([15], [15]), ([0, 7, 16], [0, 7, 16]), ([], []), ([18, 17, 7, 0, 1, 2, 3, 4, 5, 6, 7, 8, 9, 10, 11, 12, 13, 14, 15, 16, 17, 18], [17, 18])])
def roadsteadlaw10_Sub.B13 : List Nat := [0, 0, 0, 4, 14, 30, 62, 126, 0, 0, 0, 1024, 3584, 7680, 15872, 32512, 65280, 131071, 0, 524287]
theorem roadsteadlaw10_Sub.tab13 : rtab .any (opsOf Try.f24 13) = roadsteadlaw10_Sub.T13 := by kernel_rfl
theorem roadsteadlaw10_Sub.bits13 : waitsOk roadsteadlaw10_Sub.T13.2 roadsteadlaw10_Sub.B13 = true := by kernel_rfl
def roadsteadlaw10_Sub.T18 : Bool × List (List Nat × List Nat) := (true, [([], []), ([], []), ([1], [1]), ([0, 2], [0, 2]), ([3], [3]), ([4], [4]), ([], []), ([6], [6]), ([5, 7], [5, 7]), ([0, 1, 2, 3, 4, 5, 6, 7, 8], []), ([9, 8, 0, 1, 2, 3, 4, 5, 6, 7, 8], [8, 9])])
def roadsteadlaw10_Sub.B18 : List Nat := [0, 0, 2, 7, 15, 31, 0, 64, 255, 511, 1023]
theorem roadsteadlaw10_Sub.tab18 : rtab .any (opsOf Try.f24 18) = roadsteadlaw10_Sub.T18 := by kernel_rfl
theorem roadsteadlaw10_Sub.bits18 : waitsOk roadsteadlaw10_Sub.T18.2 roadsteadlaw10_Sub.B18 = true := by kernel_rfl
def roadsteadlaw10_Sub.T20 : Bool × List (List Nat × List Nat) := (true, [([], []), ([], []), ([1], [1]), ([0, 2], [0, 2]), ([3], [3]), ([4], [4]), ([], []), ([6], [6]), ([5, 7], [5, 7]), ([8], [8]), ([0, 1, 2, 3, 4, 5, 6, 7, 8, 9], []), ([10, 9, 0, 1, 2, 3, 4, 5, 6, 7, 8, 9], [9, 10])])
def roadsteadlaw10_Sub.B20 : List Nat := [0, 0, 2, 7, 15, 31, 0, 64, 255, 511, 1023, 2047]
theorem roadsteadlaw10_Sub.tab20 : rtab .any (opsOf Try.f24 20) = roadsteadlaw10_Sub.T20 := by kernel_rfl
theorem roadsteadlaw10_Sub.bits20 : waitsOk roadsteadlaw10_Sub.T20.2 roadsteadlaw10_Sub.B20 = true := by kernel_rfl
def roadsteadlaw10_Sub.T21 : Bool × List (List Nat × List Nat) := (true, [([], []), ([0], [0]), ([], []), ([], []), ([3], [3]), ([2, 4], [2, 4]), ([5], [5]), ([6], [6]), ([], []), ([8], [8]), ([7, 9], [7, 9]), ([1, 10], [1, 10]), ([0, 1, 2, 3, 4, 5, 6, 7, 8, 9, 10, 11], []), ([12, 11, 0, 1, 2, 3, 4, 5, 6, 7, 8, 9, 10, 11], [11, 12])])
def roadsteadlaw10_Sub.B21 : List Nat := [0, 1, 0, 0, 8, 28, 60, 124, 0, 256, 1020, 2047, 4095, 8191]
theorem roadsteadlaw10_Sub.tab21 : rtab .any (opsOf Try.f24 21) = roadsteadlaw10_Sub.T21 := by kernel_rfl
theorem roadsteadlaw10_Sub.bits21 : waitsOk roadsteadlaw10_Sub.T21.2 roadsteadlaw10_Sub.B21 = true := by kernel_rfl

end Go.Proofs.Ytajfefjmfelnbaa.BState
