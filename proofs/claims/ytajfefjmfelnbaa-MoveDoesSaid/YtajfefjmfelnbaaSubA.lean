/- Printed (wip/gprint.py). -/
import Derived.Test.YtajfefjmfelnbaaBStatex1
import Derived.Test.YtajfefjmfelnbaaBStatex2
import Derived.Test.YtajfefjmfelnbaaBStatex6
import Derived.Test.YtajfefjmfelnbaaSubR
import Derived.Test.YtajfefjmfelnbaaSubR13
namespace Go.Proofs.Ytajfefjmfelnbaa.BState
open Go.RowKit Go.Proofs.YtajfefjmfelnbaaW.PrintWords Go.Proofs.YtajfefjmfelnbaaW.PrintLast Go.Proofs.YtajfefjmfelnbaaW.PrintMore
attribute [local go_sem] max2_int min2_int max_two min_two max_three min_three max_four min_four   -- for this text's walks alone
set_option linter.unusedVariables false
set_option linter.unusedSimpArgs false

theorem lit_at (ys : List ByteArray) (j : Int) (h0 : 0 ≤ j) (h1 : j < (ys.length : Int)) : (ys.map Value.string).toArray[j.toNat]? = some (.string (rdOf ByteArray.empty ys j)) := by
 have h : j.toNat < ys.length := by omega
 simp [rdOf, List.getD, h]
/-- What is left to prove, held apart from what `assumption` sees. -/
structure Held_ (P : Prop) : Prop where
  out : P
set_option maxHeartbeats 80000000 in
set_option maxRecDepth 100000 in
noncomputable def sub_c1 : { P : Prop // Held_ P → ∀ (k : Nat) (A0 : Option Addr) (c0 : Nat) (l0 : List Int) (a1 : Int) (a2 : Int) (a3 : Int) (r1 : Int) (r2 : ByteArray) (r3 : ByteArray) (r4 : ByteArray) (r5 : Int) (r6 : Int) (r7 : Int) (r8 : List Int) (r9 : List (S68)) (r10 : ByteArray) (w : World) (hr0 : Kd.C (Kd.int .u8) w A0 l0.length l0) (hc0 : l0.length ≤ c0) (h : roadsteadlaw10_Sub.f k l0 a1 a2 a3 = some (r1, r2, r3, r4, r5, r6, r7, r8, r9, r10)), Calls Try.prog 24 #[.slice A0 l0.length c0, .int .i64 a1, .int .i64 a2, .int .i64 a3] w fun e w' => ∃ v7_ v8_ : Value, e = .returned (.agg #[.int .i64 r1, .string r2, .string r3, .string r4, .int .i64 r5, .int .i64 r6, .int .i64 r7, v7_, v8_, .string r10]) ∧ Kd.R (Kd.int .i64) 3 w' w.heap.size (fun _ => True) v7_ r8 ∧ Kd.R k68 68 w' w.heap.size (fun _ => True) v8_ r9 ∧ Below w.heap.size w w' } := by
 apply Subtype.mk
 intro hP_ k A0 c0 l0 a1 a2 a3 r1 r2 r3 r4 r5 r6 r7 r8 r9 r10 w hr0 hc0 h
 have hu46 := Try.underlying46
 have hu68 := Try.underlying68
 have HR0 := Aside0.mk hr0
 have HC0 := Aside0.mk hc0
 clear hr0 hc0
 have HB := Aside0.mk (Below.refl w.heap.size w)
 have H : ((roadsteadlaw10_g.f l0 0).bind fun t142 => ((roadsteadlaw10_text.f k t142 19).bind fun t143 => (if 1 + t143.size ≤ 9223372036854775807 then ((some (([(⟨#[35]⟩ : ByteArray), (⟨#[97]⟩ : ByteArray), (⟨#[97, 47, 43]⟩ : ByteArray), (⟨#[98, 47, 35]⟩ : ByteArray)] : List ByteArray) : List ByteArray)).bind fun y144 => ((roadsteadlaw10_g.f l0 1).bind fun t147 => (if 0 ≤ (Int.tmod t147 4) then (if (Int.tmod t147 4) < (y144.length : Int) then ((some (([(⟨#[]⟩ : ByteArray), (⟨#[97, 61, 49]⟩ : ByteArray), (⟨#[97, 61, 49, 44, 98, 61, 50]⟩ : ByteArray)] : List ByteArray) : List ByteArray)).bind fun y149 => ((roadsteadlaw10_g.f l0 1).bind fun t152 => (if 0 ≤ (Int.tmod (wrap64 (Int.tdiv t152 4)) 3) then (if (Int.tmod (wrap64 (Int.tdiv t152 4)) 3) < (y149.length : Int) then ((roadsteadlaw10_g.f l0 2).bind fun t154 => ((roadsteadlaw10_g.f l0 3).bind fun t155 => ((roadsteadlaw10_g.f l0 4).bind fun t156 => (if a3 = 0 then (none) else ((roadsteadlaw10_g.f l0 5).bind fun t158 => (if t158 > 120 then ((roadsteadlaw10_g.f l0 5).bind fun t159 => ((roadsteadlaw10_text.f k t159 30).bind fun t160 => (roadsteadlaw10_Sub.j0 k l0 a2 a3 a1 ((⟨#[110]⟩ : ByteArray) ++ t143) (rdOf ByteArray.empty y144 (Int.tmod t147 4)) (rdOf ByteArray.empty y149 (Int.tmod (wrap64 (Int.tdiv t152 4)) 3)) (wrap64 (1 + (wrap64 (t154 * 3)))) (wrap64 (1 + (Int.tmod t155 9))) (Int.tmod t156 a3) t160))) else (roadsteadlaw10_Sub.j0 k l0 a2 a3 a1 ((⟨#[110]⟩ : ByteArray) ++ t143) (rdOf ByteArray.empty y144 (Int.tmod t147 4)) (rdOf ByteArray.empty y149 (Int.tmod (wrap64 (Int.tdiv t152 4)) 3)) (wrap64 (1 + (wrap64 (t154 * 3)))) (wrap64 (1 + (Int.tmod t155 9))) (Int.tmod t156 a3) (⟨#[]⟩ : ByteArray)))))))) else (none)) else (none)))) else (none)) else (none)))) else (none)))) = some (r1, r2, r3, r4, r5, r6, r7, r8, r9, r10) := h
 clear h
 replace H := Option.bind_eq_some_iff.mp H
 obtain ⟨t142, A50, H⟩ := H
 replace H : ((roadsteadlaw10_text.f k t142 19).bind fun t143 => (if 1 + t143.size ≤ 9223372036854775807 then ((some (([(⟨#[35]⟩ : ByteArray), (⟨#[97]⟩ : ByteArray), (⟨#[97, 47, 43]⟩ : ByteArray), (⟨#[98, 47, 35]⟩ : ByteArray)] : List ByteArray) : List ByteArray)).bind fun y144 => ((roadsteadlaw10_g.f l0 1).bind fun t147 => (if 0 ≤ (Int.tmod t147 4) then (if (Int.tmod t147 4) < (y144.length : Int) then ((some (([(⟨#[]⟩ : ByteArray), (⟨#[97, 61, 49]⟩ : ByteArray), (⟨#[97, 61, 49, 44, 98, 61, 50]⟩ : ByteArray)] : List ByteArray) : List ByteArray)).bind fun y149 => ((roadsteadlaw10_g.f l0 1).bind fun t152 => (if 0 ≤ (Int.tmod (wrap64 (Int.tdiv t152 4)) 3) then (if (Int.tmod (wrap64 (Int.tdiv t152 4)) 3) < (y149.length : Int) then ((roadsteadlaw10_g.f l0 2).bind fun t154 => ((roadsteadlaw10_g.f l0 3).bind fun t155 => ((roadsteadlaw10_g.f l0 4).bind fun t156 => (if a3 = 0 then (none) else ((roadsteadlaw10_g.f l0 5).bind fun t158 => (if t158 > 120 then ((roadsteadlaw10_g.f l0 5).bind fun t159 => ((roadsteadlaw10_text.f k t159 30).bind fun t160 => (roadsteadlaw10_Sub.j0 k l0 a2 a3 a1 ((⟨#[110]⟩ : ByteArray) ++ t143) (rdOf ByteArray.empty y144 (Int.tmod t147 4)) (rdOf ByteArray.empty y149 (Int.tmod (wrap64 (Int.tdiv t152 4)) 3)) (wrap64 (1 + (wrap64 (t154 * 3)))) (wrap64 (1 + (Int.tmod t155 9))) (Int.tmod t156 a3) t160))) else (roadsteadlaw10_Sub.j0 k l0 a2 a3 a1 ((⟨#[110]⟩ : ByteArray) ++ t143) (rdOf ByteArray.empty y144 (Int.tmod t147 4)) (rdOf ByteArray.empty y149 (Int.tmod (wrap64 (Int.tdiv t152 4)) 3)) (wrap64 (1 + (wrap64 (t154 * 3)))) (wrap64 (1 + (Int.tmod t155 9))) (Int.tmod t156 a3) (⟨#[]⟩ : ByteArray)))))))) else (none)) else (none)))) else (none)) else (none)))) else (none))) = some (r1, r2, r3, r4, r5, r6, r7, r8, r9, r10) := H
 have A5 := Aside0.mk A50
 clear A50
 replace H := Option.bind_eq_some_iff.mp H
 obtain ⟨t143, A60, H⟩ := H
 replace H : (if 1 + t143.size ≤ 9223372036854775807 then ((some (([(⟨#[35]⟩ : ByteArray), (⟨#[97]⟩ : ByteArray), (⟨#[97, 47, 43]⟩ : ByteArray), (⟨#[98, 47, 35]⟩ : ByteArray)] : List ByteArray) : List ByteArray)).bind fun y144 => ((roadsteadlaw10_g.f l0 1).bind fun t147 => (if 0 ≤ (Int.tmod t147 4) then (if (Int.tmod t147 4) < (y144.length : Int) then ((some (([(⟨#[]⟩ : ByteArray), (⟨#[97, 61, 49]⟩ : ByteArray), (⟨#[97, 61, 49, 44, 98, 61, 50]⟩ : ByteArray)] : List ByteArray) : List ByteArray)).bind fun y149 => ((roadsteadlaw10_g.f l0 1).bind fun t152 => (if 0 ≤ (Int.tmod (wrap64 (Int.tdiv t152 4)) 3) then (if (Int.tmod (wrap64 (Int.tdiv t152 4)) 3) < (y149.length : Int) then ((roadsteadlaw10_g.f l0 2).bind fun t154 => ((roadsteadlaw10_g.f l0 3).bind fun t155 => ((roadsteadlaw10_g.f l0 4).bind fun t156 => (if a3 = 0 then (none) else ((roadsteadlaw10_g.f l0 5).bind fun t158 => (if t158 > 120 then ((roadsteadlaw10_g.f l0 5).bind fun t159 => ((roadsteadlaw10_text.f k t159 30).bind fun t160 => (roadsteadlaw10_Sub.j0 k l0 a2 a3 a1 ((⟨#[110]⟩ : ByteArray) ++ t143) (rdOf ByteArray.empty y144 (Int.tmod t147 4)) (rdOf ByteArray.empty y149 (Int.tmod (wrap64 (Int.tdiv t152 4)) 3)) (wrap64 (1 + (wrap64 (t154 * 3)))) (wrap64 (1 + (Int.tmod t155 9))) (Int.tmod t156 a3) t160))) else (roadsteadlaw10_Sub.j0 k l0 a2 a3 a1 ((⟨#[110]⟩ : ByteArray) ++ t143) (rdOf ByteArray.empty y144 (Int.tmod t147 4)) (rdOf ByteArray.empty y149 (Int.tmod (wrap64 (Int.tdiv t152 4)) 3)) (wrap64 (1 + (wrap64 (t154 * 3)))) (wrap64 (1 + (Int.tmod t155 9))) (Int.tmod t156 a3) (⟨#[]⟩ : ByteArray)))))))) else (none)) else (none)))) else (none)) else (none)))) else (none)) = some (r1, r2, r3, r4, r5, r6, r7, r8, r9, r10) := H
 have A6 := Aside0.mk A60
 clear A60
 by_cases c7 : 1 + t143.size ≤ 9223372036854775807
 ·rw [if_pos c7] at H
  have c7b0 := eq_true c7
  have c7b1 : decide (1 + t143.size ≤ 9223372036854775807) = true := decide_eq_true c7
  try have c7b2 : (9223372036854775807 < 1 + t143.size) = False := eq_false (Nat.not_lt.2 c7)
  obtain ⟨y144, hy144⟩ : ∃ y_ : List ByteArray, y_ = (([(⟨#[35]⟩ : ByteArray), (⟨#[97]⟩ : ByteArray), (⟨#[97, 47, 43]⟩ : ByteArray), (⟨#[98, 47, 35]⟩ : ByteArray)] : List ByteArray)) := ⟨_, rfl⟩
  replace H : ((roadsteadlaw10_g.f l0 1).bind fun t147 => (if 0 ≤ (Int.tmod t147 4) then (if (Int.tmod t147 4) < (y144.length : Int) then ((some (([(⟨#[]⟩ : ByteArray), (⟨#[97, 61, 49]⟩ : ByteArray), (⟨#[97, 61, 49, 44, 98, 61, 50]⟩ : ByteArray)] : List ByteArray) : List ByteArray)).bind fun y149 => ((roadsteadlaw10_g.f l0 1).bind fun t152 => (if 0 ≤ (Int.tmod (wrap64 (Int.tdiv t152 4)) 3) then (if (Int.tmod (wrap64 (Int.tdiv t152 4)) 3) < (y149.length : Int) then ((roadsteadlaw10_g.f l0 2).bind fun t154 => ((roadsteadlaw10_g.f l0 3).bind fun t155 => ((roadsteadlaw10_g.f l0 4).bind fun t156 => (if a3 = 0 then (none) else ((roadsteadlaw10_g.f l0 5).bind fun t158 => (if t158 > 120 then ((roadsteadlaw10_g.f l0 5).bind fun t159 => ((roadsteadlaw10_text.f k t159 30).bind fun t160 => (roadsteadlaw10_Sub.j0 k l0 a2 a3 a1 ((⟨#[110]⟩ : ByteArray) ++ t143) (rdOf ByteArray.empty y144 (Int.tmod t147 4)) (rdOf ByteArray.empty y149 (Int.tmod (wrap64 (Int.tdiv t152 4)) 3)) (wrap64 (1 + (wrap64 (t154 * 3)))) (wrap64 (1 + (Int.tmod t155 9))) (Int.tmod t156 a3) t160))) else (roadsteadlaw10_Sub.j0 k l0 a2 a3 a1 ((⟨#[110]⟩ : ByteArray) ++ t143) (rdOf ByteArray.empty y144 (Int.tmod t147 4)) (rdOf ByteArray.empty y149 (Int.tmod (wrap64 (Int.tdiv t152 4)) 3)) (wrap64 (1 + (wrap64 (t154 * 3)))) (wrap64 (1 + (Int.tmod t155 9))) (Int.tmod t156 a3) (⟨#[]⟩ : ByteArray)))))))) else (none)) else (none)))) else (none)) else (none))) = some (r1, r2, r3, r4, r5, r6, r7, r8, r9, r10) := by first | (rw [hy144]; with_reducible exact H) | (have H2_ := (Option.bind_some _ _).symm.trans H; rw [hy144]; with_reducible exact H2_) | (have H2_ := (Option.bind_some _ _).symm.trans H; with_reducible exact H2_) | with_reducible exact H | (rw [hy144]; exact H) | exact H
  have Ny144 := Aside0.mk hy144
  clear hy144
  replace H := Option.bind_eq_some_iff.mp H
  obtain ⟨t147, A80, H⟩ := H
  replace H : (if 0 ≤ (Int.tmod t147 4) then (if (Int.tmod t147 4) < (y144.length : Int) then ((some (([(⟨#[]⟩ : ByteArray), (⟨#[97, 61, 49]⟩ : ByteArray), (⟨#[97, 61, 49, 44, 98, 61, 50]⟩ : ByteArray)] : List ByteArray) : List ByteArray)).bind fun y149 => ((roadsteadlaw10_g.f l0 1).bind fun t152 => (if 0 ≤ (Int.tmod (wrap64 (Int.tdiv t152 4)) 3) then (if (Int.tmod (wrap64 (Int.tdiv t152 4)) 3) < (y149.length : Int) then ((roadsteadlaw10_g.f l0 2).bind fun t154 => ((roadsteadlaw10_g.f l0 3).bind fun t155 => ((roadsteadlaw10_g.f l0 4).bind fun t156 => (if a3 = 0 then (none) else ((roadsteadlaw10_g.f l0 5).bind fun t158 => (if t158 > 120 then ((roadsteadlaw10_g.f l0 5).bind fun t159 => ((roadsteadlaw10_text.f k t159 30).bind fun t160 => (roadsteadlaw10_Sub.j0 k l0 a2 a3 a1 ((⟨#[110]⟩ : ByteArray) ++ t143) (rdOf ByteArray.empty y144 (Int.tmod t147 4)) (rdOf ByteArray.empty y149 (Int.tmod (wrap64 (Int.tdiv t152 4)) 3)) (wrap64 (1 + (wrap64 (t154 * 3)))) (wrap64 (1 + (Int.tmod t155 9))) (Int.tmod t156 a3) t160))) else (roadsteadlaw10_Sub.j0 k l0 a2 a3 a1 ((⟨#[110]⟩ : ByteArray) ++ t143) (rdOf ByteArray.empty y144 (Int.tmod t147 4)) (rdOf ByteArray.empty y149 (Int.tmod (wrap64 (Int.tdiv t152 4)) 3)) (wrap64 (1 + (wrap64 (t154 * 3)))) (wrap64 (1 + (Int.tmod t155 9))) (Int.tmod t156 a3) (⟨#[]⟩ : ByteArray)))))))) else (none)) else (none)))) else (none)) else (none)) = some (r1, r2, r3, r4, r5, r6, r7, r8, r9, r10) := H
  have A8 := Aside0.mk A80
  clear A80
  obtain ⟨ji9, hji9⟩ : ∃ j_ : Int, (Int.tmod t147 4) = j_ := ⟨_, rfl⟩
  replace H : (if 0 ≤ (ji9) then (if (ji9) < (y144.length : Int) then ((some (([(⟨#[]⟩ : ByteArray), (⟨#[97, 61, 49]⟩ : ByteArray), (⟨#[97, 61, 49, 44, 98, 61, 50]⟩ : ByteArray)] : List ByteArray) : List ByteArray)).bind fun y149 => ((roadsteadlaw10_g.f l0 1).bind fun t152 => (if 0 ≤ (Int.tmod (wrap64 (Int.tdiv t152 4)) 3) then (if (Int.tmod (wrap64 (Int.tdiv t152 4)) 3) < (y149.length : Int) then ((roadsteadlaw10_g.f l0 2).bind fun t154 => ((roadsteadlaw10_g.f l0 3).bind fun t155 => ((roadsteadlaw10_g.f l0 4).bind fun t156 => (if a3 = 0 then (none) else ((roadsteadlaw10_g.f l0 5).bind fun t158 => (if t158 > 120 then ((roadsteadlaw10_g.f l0 5).bind fun t159 => ((roadsteadlaw10_text.f k t159 30).bind fun t160 => (roadsteadlaw10_Sub.j0 k l0 a2 a3 a1 ((⟨#[110]⟩ : ByteArray) ++ t143) (rdOf ByteArray.empty y144 (ji9)) (rdOf ByteArray.empty y149 (Int.tmod (wrap64 (Int.tdiv t152 4)) 3)) (wrap64 (1 + (wrap64 (t154 * 3)))) (wrap64 (1 + (Int.tmod t155 9))) (Int.tmod t156 a3) t160))) else (roadsteadlaw10_Sub.j0 k l0 a2 a3 a1 ((⟨#[110]⟩ : ByteArray) ++ t143) (rdOf ByteArray.empty y144 (ji9)) (rdOf ByteArray.empty y149 (Int.tmod (wrap64 (Int.tdiv t152 4)) 3)) (wrap64 (1 + (wrap64 (t154 * 3)))) (wrap64 (1 + (Int.tmod t155 9))) (Int.tmod t156 a3) (⟨#[]⟩ : ByteArray)))))))) else (none)) else (none)))) else (none)) else (none)) = some (r1, r2, r3, r4, r5, r6, r7, r8, r9, r10) := by first | (rw [hji9] at H; exact H) | (simp only [hji9] at H ⊢; exact H)
  (try rw [hji9] at A5)
  (try rw [hji9] at A6)
  (try rw [hji9] at A8)
  by_cases c10 : 0 ≤ (ji9)
  ·rw [if_pos c10] at H
   have c10b0 : decide (0 ≤ (ji9)) = true := decide_eq_true c10
   clear c10
   by_cases c11 : (ji9) < (y144.length : Int)
   ·rw [if_pos c11] at H
    have c11b0 : decide ((ji9) < (y144.length : Int)) = true := decide_eq_true c11
    clear c11
    obtain ⟨y149, hy149⟩ : ∃ y_ : List ByteArray, y_ = (([(⟨#[]⟩ : ByteArray), (⟨#[97, 61, 49]⟩ : ByteArray), (⟨#[97, 61, 49, 44, 98, 61, 50]⟩ : ByteArray)] : List ByteArray)) := ⟨_, rfl⟩
    replace H : ((roadsteadlaw10_g.f l0 1).bind fun t152 => (if 0 ≤ (Int.tmod (wrap64 (Int.tdiv t152 4)) 3) then (if (Int.tmod (wrap64 (Int.tdiv t152 4)) 3) < (y149.length : Int) then ((roadsteadlaw10_g.f l0 2).bind fun t154 => ((roadsteadlaw10_g.f l0 3).bind fun t155 => ((roadsteadlaw10_g.f l0 4).bind fun t156 => (if a3 = 0 then (none) else ((roadsteadlaw10_g.f l0 5).bind fun t158 => (if t158 > 120 then ((roadsteadlaw10_g.f l0 5).bind fun t159 => ((roadsteadlaw10_text.f k t159 30).bind fun t160 => (roadsteadlaw10_Sub.j0 k l0 a2 a3 a1 ((⟨#[110]⟩ : ByteArray) ++ t143) (rdOf ByteArray.empty y144 (ji9)) (rdOf ByteArray.empty y149 (Int.tmod (wrap64 (Int.tdiv t152 4)) 3)) (wrap64 (1 + (wrap64 (t154 * 3)))) (wrap64 (1 + (Int.tmod t155 9))) (Int.tmod t156 a3) t160))) else (roadsteadlaw10_Sub.j0 k l0 a2 a3 a1 ((⟨#[110]⟩ : ByteArray) ++ t143) (rdOf ByteArray.empty y144 (ji9)) (rdOf ByteArray.empty y149 (Int.tmod (wrap64 (Int.tdiv t152 4)) 3)) (wrap64 (1 + (wrap64 (t154 * 3)))) (wrap64 (1 + (Int.tmod t155 9))) (Int.tmod t156 a3) (⟨#[]⟩ : ByteArray)))))))) else (none)) else (none))) = some (r1, r2, r3, r4, r5, r6, r7, r8, r9, r10) := by first | (rw [hy149]; with_reducible exact H) | (have H2_ := (Option.bind_some _ _).symm.trans H; rw [hy149]; with_reducible exact H2_) | (have H2_ := (Option.bind_some _ _).symm.trans H; with_reducible exact H2_) | with_reducible exact H | (rw [hy149]; exact H) | exact H
    have Ny149 := Aside0.mk hy149
    clear hy149
    replace H := Option.bind_eq_some_iff.mp H
    obtain ⟨t152, A120, H⟩ := H
    replace H : (if 0 ≤ (Int.tmod (wrap64 (Int.tdiv t152 4)) 3) then (if (Int.tmod (wrap64 (Int.tdiv t152 4)) 3) < (y149.length : Int) then ((roadsteadlaw10_g.f l0 2).bind fun t154 => ((roadsteadlaw10_g.f l0 3).bind fun t155 => ((roadsteadlaw10_g.f l0 4).bind fun t156 => (if a3 = 0 then (none) else ((roadsteadlaw10_g.f l0 5).bind fun t158 => (if t158 > 120 then ((roadsteadlaw10_g.f l0 5).bind fun t159 => ((roadsteadlaw10_text.f k t159 30).bind fun t160 => (roadsteadlaw10_Sub.j0 k l0 a2 a3 a1 ((⟨#[110]⟩ : ByteArray) ++ t143) (rdOf ByteArray.empty y144 (ji9)) (rdOf ByteArray.empty y149 (Int.tmod (wrap64 (Int.tdiv t152 4)) 3)) (wrap64 (1 + (wrap64 (t154 * 3)))) (wrap64 (1 + (Int.tmod t155 9))) (Int.tmod t156 a3) t160))) else (roadsteadlaw10_Sub.j0 k l0 a2 a3 a1 ((⟨#[110]⟩ : ByteArray) ++ t143) (rdOf ByteArray.empty y144 (ji9)) (rdOf ByteArray.empty y149 (Int.tmod (wrap64 (Int.tdiv t152 4)) 3)) (wrap64 (1 + (wrap64 (t154 * 3)))) (wrap64 (1 + (Int.tmod t155 9))) (Int.tmod t156 a3) (⟨#[]⟩ : ByteArray)))))))) else (none)) else (none)) = some (r1, r2, r3, r4, r5, r6, r7, r8, r9, r10) := H
    have A12 := Aside0.mk A120
    clear A120
    obtain rfl : t147 = t152 := Option.some.inj (A8.out.symm.trans A12.out)
    obtain ⟨ji13, hji13⟩ : ∃ j_ : Int, (Int.tmod (wrap64 (Int.tdiv t147 4)) 3) = j_ := ⟨_, rfl⟩
    replace H : (if 0 ≤ (ji13) then (if (ji13) < (y149.length : Int) then ((roadsteadlaw10_g.f l0 2).bind fun t154 => ((roadsteadlaw10_g.f l0 3).bind fun t155 => ((roadsteadlaw10_g.f l0 4).bind fun t156 => (if a3 = 0 then (none) else ((roadsteadlaw10_g.f l0 5).bind fun t158 => (if t158 > 120 then ((roadsteadlaw10_g.f l0 5).bind fun t159 => ((roadsteadlaw10_text.f k t159 30).bind fun t160 => (roadsteadlaw10_Sub.j0 k l0 a2 a3 a1 ((⟨#[110]⟩ : ByteArray) ++ t143) (rdOf ByteArray.empty y144 (ji9)) (rdOf ByteArray.empty y149 (ji13)) (wrap64 (1 + (wrap64 (t154 * 3)))) (wrap64 (1 + (Int.tmod t155 9))) (Int.tmod t156 a3) t160))) else (roadsteadlaw10_Sub.j0 k l0 a2 a3 a1 ((⟨#[110]⟩ : ByteArray) ++ t143) (rdOf ByteArray.empty y144 (ji9)) (rdOf ByteArray.empty y149 (ji13)) (wrap64 (1 + (wrap64 (t154 * 3)))) (wrap64 (1 + (Int.tmod t155 9))) (Int.tmod t156 a3) (⟨#[]⟩ : ByteArray)))))))) else (none)) else (none)) = some (r1, r2, r3, r4, r5, r6, r7, r8, r9, r10) := by first | (rw [hji13] at H; exact H) | (simp only [hji13] at H ⊢; exact H)
    (try rw [hji13] at A5)
    (try rw [hji13] at A6)
    (try rw [hji13] at A8)
    (try rw [hji13] at A12)
    by_cases c14 : 0 ≤ (ji13)
    ·rw [if_pos c14] at H
     have c14b0 : decide (0 ≤ (ji13)) = true := decide_eq_true c14
     clear c14
     by_cases c15 : (ji13) < (y149.length : Int)
     ·rw [if_pos c15] at H
      have c15b0 : decide ((ji13) < (y149.length : Int)) = true := decide_eq_true c15
      clear c15
      replace H := Option.bind_eq_some_iff.mp H
      obtain ⟨t154, A160, H⟩ := H
      replace H : ((roadsteadlaw10_g.f l0 3).bind fun t155 => ((roadsteadlaw10_g.f l0 4).bind fun t156 => (if a3 = 0 then (none) else ((roadsteadlaw10_g.f l0 5).bind fun t158 => (if t158 > 120 then ((roadsteadlaw10_g.f l0 5).bind fun t159 => ((roadsteadlaw10_text.f k t159 30).bind fun t160 => (roadsteadlaw10_Sub.j0 k l0 a2 a3 a1 ((⟨#[110]⟩ : ByteArray) ++ t143) (rdOf ByteArray.empty y144 (ji9)) (rdOf ByteArray.empty y149 (ji13)) (wrap64 (1 + (wrap64 (t154 * 3)))) (wrap64 (1 + (Int.tmod t155 9))) (Int.tmod t156 a3) t160))) else (roadsteadlaw10_Sub.j0 k l0 a2 a3 a1 ((⟨#[110]⟩ : ByteArray) ++ t143) (rdOf ByteArray.empty y144 (ji9)) (rdOf ByteArray.empty y149 (ji13)) (wrap64 (1 + (wrap64 (t154 * 3)))) (wrap64 (1 + (Int.tmod t155 9))) (Int.tmod t156 a3) (⟨#[]⟩ : ByteArray))))))) = some (r1, r2, r3, r4, r5, r6, r7, r8, r9, r10) := H
      have A16 := Aside0.mk A160
      clear A160
      replace H := Option.bind_eq_some_iff.mp H
      obtain ⟨t155, A170, H⟩ := H
      replace H : ((roadsteadlaw10_g.f l0 4).bind fun t156 => (if a3 = 0 then (none) else ((roadsteadlaw10_g.f l0 5).bind fun t158 => (if t158 > 120 then ((roadsteadlaw10_g.f l0 5).bind fun t159 => ((roadsteadlaw10_text.f k t159 30).bind fun t160 => (roadsteadlaw10_Sub.j0 k l0 a2 a3 a1 ((⟨#[110]⟩ : ByteArray) ++ t143) (rdOf ByteArray.empty y144 (ji9)) (rdOf ByteArray.empty y149 (ji13)) (wrap64 (1 + (wrap64 (t154 * 3)))) (wrap64 (1 + (Int.tmod t155 9))) (Int.tmod t156 a3) t160))) else (roadsteadlaw10_Sub.j0 k l0 a2 a3 a1 ((⟨#[110]⟩ : ByteArray) ++ t143) (rdOf ByteArray.empty y144 (ji9)) (rdOf ByteArray.empty y149 (ji13)) (wrap64 (1 + (wrap64 (t154 * 3)))) (wrap64 (1 + (Int.tmod t155 9))) (Int.tmod t156 a3) (⟨#[]⟩ : ByteArray)))))) = some (r1, r2, r3, r4, r5, r6, r7, r8, r9, r10) := H
      have A17 := Aside0.mk A170
      clear A170
      replace H := Option.bind_eq_some_iff.mp H
      obtain ⟨t156, A180, H⟩ := H
      replace H : (if a3 = 0 then (none) else ((roadsteadlaw10_g.f l0 5).bind fun t158 => (if t158 > 120 then ((roadsteadlaw10_g.f l0 5).bind fun t159 => ((roadsteadlaw10_text.f k t159 30).bind fun t160 => (roadsteadlaw10_Sub.j0 k l0 a2 a3 a1 ((⟨#[110]⟩ : ByteArray) ++ t143) (rdOf ByteArray.empty y144 (ji9)) (rdOf ByteArray.empty y149 (ji13)) (wrap64 (1 + (wrap64 (t154 * 3)))) (wrap64 (1 + (Int.tmod t155 9))) (Int.tmod t156 a3) t160))) else (roadsteadlaw10_Sub.j0 k l0 a2 a3 a1 ((⟨#[110]⟩ : ByteArray) ++ t143) (rdOf ByteArray.empty y144 (ji9)) (rdOf ByteArray.empty y149 (ji13)) (wrap64 (1 + (wrap64 (t154 * 3)))) (wrap64 (1 + (Int.tmod t155 9))) (Int.tmod t156 a3) (⟨#[]⟩ : ByteArray))))) = some (r1, r2, r3, r4, r5, r6, r7, r8, r9, r10) := H
      have A18 := Aside0.mk A180
      clear A180
      by_cases c19 : a3 = 0
      ·rw [if_pos c19] at H
       exact absurd H (by simp)
      ·rw [if_neg c19] at H
       have c19b0 : (a3 == 0) = false := beq_eq_false_iff_ne.mpr c19
       have c19b1 : (a3 != 0) = true := bne_iff_ne.mpr c19
       replace H := Option.bind_eq_some_iff.mp H
       obtain ⟨t158, A200, H⟩ := H
       replace H : (if t158 > 120 then ((roadsteadlaw10_g.f l0 5).bind fun t159 => ((roadsteadlaw10_text.f k t159 30).bind fun t160 => (roadsteadlaw10_Sub.j0 k l0 a2 a3 a1 ((⟨#[110]⟩ : ByteArray) ++ t143) (rdOf ByteArray.empty y144 (ji9)) (rdOf ByteArray.empty y149 (ji13)) (wrap64 (1 + (wrap64 (t154 * 3)))) (wrap64 (1 + (Int.tmod t155 9))) (Int.tmod t156 a3) t160))) else (roadsteadlaw10_Sub.j0 k l0 a2 a3 a1 ((⟨#[110]⟩ : ByteArray) ++ t143) (rdOf ByteArray.empty y144 (ji9)) (rdOf ByteArray.empty y149 (ji13)) (wrap64 (1 + (wrap64 (t154 * 3)))) (wrap64 (1 + (Int.tmod t155 9))) (Int.tmod t156 a3) (⟨#[]⟩ : ByteArray))) = some (r1, r2, r3, r4, r5, r6, r7, r8, r9, r10) := H
       have A20 := Aside0.mk A200
       clear A200
       have HC21 := Aside0.mk H
       clear H
       go_enter Try.func24, Try.ntmps24
       try go_wp2_with (first | ((with_reducible refine gate_dst (N := 8) rfl ?_); (try (refine gate_guard (by rfl) ?_; dsimp only)); refine box_event ?hg (N := 8) ?hd (cs := #[.int .i64 0, .string (⟨#[]⟩ : ByteArray), .string (⟨#[]⟩ : ByteArray), .string (⟨#[]⟩ : ByteArray), .int .i64 0, .int .i64 0, .int .i64 0, .slice none 0 0, .slice none 0 0, .string (⟨#[]⟩ : ByteArray)]) (t := 46) ?hr ?_; (case hd => rfl); (case hg => rfl); (case hr => first | (go_simp; done) | (go_simp; rfl)); intro gb141 hg w22 hbox hb; have n0_ := Aside0.mk (below_step (by repeat (with_reducible first | exact HB.out | apply below_alloc | apply pw_below_drewN | apply below_drew1)) hb); have n1_ := Aside0.mk (hbox); have n2_ := Aside0.mk ((by rw [hg]; exact (below_size (by repeat (with_reducible first | exact HB.out | apply below_alloc | apply pw_below_drewN | apply below_drew1))) : w.heap.size ≤ gb141)); have n3_ := Aside0.mk ((by rw [hg]; exact (below_size (by repeat (with_reducible first | exact HB.out | apply below_alloc | apply pw_below_drewN | apply below_drew1))) : w.heap.size ≤ gb141)); clear HB; have HB := n0_; have BK141 := n1_; have GW141 := n2_; have GE141 := n3_; clear n0_ n1_ n2_ n3_; clear hb hbox hg))
       have hs1_ := lit_at y144 (ji9) (of_decide_eq_true c10b0) (of_decide_eq_true c11b0)
       have hs2_ := lit_at y149 (ji13) (of_decide_eq_true c14b0) (of_decide_eq_true c15b0)
       have hy1_ : y144.length = 4 := by rw [Ny144.out]; rfl
       have hy2_ : y149.length = 3 := by rw [Ny149.out]; rfl
       have hb1_ := of_decide_eq_true c10b0
       have hb2_ := of_decide_eq_true c11b0
       have hb3_ := of_decide_eq_true c14b0
       have hb4_ := of_decide_eq_true c15b0
       have hn1_ : Int.tmod t147 4 = ((ji9.toNat : Nat) : Int) := by rw [hji9]; omega
       have hn2_ : Int.tmod (wrap64 (Int.tdiv t147 4)) 3 = ((ji13.toNat : Nat) : Int) := by rw [hji13]; omega
       have hm1_ : ji9.toNat < 4 := by omega
       have hm2_ : ji13.toNat < 3 := by omega
       refine sub_r1 A0 c0 l0 k a1 a2 a3 t142 t147 t154 t155 t156 t143 _ _ ji9.toNat ji13.toNat gb141 w22 ⟨Kd.C_below HR0.out HB.out⟩ HC0 A5 A6 A8 A16 A17 A18 hn1_ hm1_ (by rw [← hs1_, Ny144.out]; rfl) hn2_ hm2_ (by rw [← hs2_, Ny149.out]; rfl) c19b0 c7b0 (eq_false (Nat.not_lt.2 c7)) (eq_false c19) (eq_true (by omega)) (eq_true (by omega)) (fun _ _ d_ _ _ h => by cases d_ <;> exact h) ⟨fun _ _ _ _ _ _ _ _ _ _ _ _ _ _ _ _ _ _ _ _ _ _ _ _ _ _ _ _ _ _ _ gb157 w32 hge_ hbel_ hrow_ => ?_⟩
       clear hs1_ hs2_ hy1_ hy2_ hb1_ hb2_ hb3_ hb4_ hn1_ hn2_ hm1_ hm2_
       have hlt_ := (Array.getElem?_eq_some_iff.1 BK141.out).1
       have GE157 := Aside0.mk (Nat.le_trans HB.out.size hge_)
       have GW157 := GE157
       have NB141_157 := Aside0.mk (Nat.ne_of_lt (Nat.lt_of_lt_of_le hlt_ hge_))
       have NB157_141 := Aside0.mk (Nat.ne_of_gt (Nat.lt_of_lt_of_le hlt_ hge_))
       have n0_ := Aside0.mk ((hbel_.block _ hlt_).trans BK141.out)
       have n1_ := Aside0.mk (below_step HB.out hbel_)
       have BK157 := Aside0.mk hrow_
       clear BK141 HB hge_ hbel_ hrow_ hlt_
       have BK141 := n0_
       have HB := n1_
       clear n0_ n1_
       go_upto_if 46 with (first | ((with_reducible refine gate_callee (f := 22) rfl ?_); refine goesL_ (some 45) rfl rfl Try.func22 (by kernel_rfl) rfl #[.slice A0 l0.length c0, .int .i64 5] rfl (by (try simp only [List.map_toArray, List.map_cons, List.map_nil]); first | done | rfl) ?_; (with_reducible refine (roadsteadlaw10_g.calls _ _ l0 5 t158 _ ?side1 ?side2 A20.out).mono ?_); (case side1 => exact Kd.C_below HR0.out (by repeat (with_reducible first | exact HB.out | apply below_alloc | apply pw_below_drewN | apply below_drew1 | refine below_set ?_ GE141.out | refine below_set ?_ GE157.out))); (case side2 => exact HC0.out); rintro e w' ⟨rfl, ⟨nd, rfl⟩⟩; refine ⟨_, rfl, ?_⟩))
       (try simp only [Act.put, List.setIfInBounds_toArray, List.set_cons_zero, List.set_cons_succ])
       go_cut [] (fun wc => ∃ (kq : Nat) (y009_20 : ByteArray), Aside0 (roadsteadlaw10_Sub.j0 kq l0 a2 a3 a1 ((⟨#[110]⟩ : ByteArray) ++ t143) (rdOf ByteArray.empty y144 (ji9)) (rdOf ByteArray.empty y149 (ji13)) (wrap64 (1 + (wrap64 (t154 * 3)))) (wrap64 (1 + (Int.tmod t155 9))) (Int.tmod t156 a3) y009_20 = some (r1, r2, r3, r4, r5, r6, r7, r8, r9, r10)) ∧ Aside0 (kq ≤ k) ∧ Aside0 (wc.heap[gb141]? = some (.cells #[.int .i64 0, .string (⟨#[]⟩ : ByteArray), .string (⟨#[]⟩ : ByteArray), .string (⟨#[]⟩ : ByteArray), .int .i64 0, .int .i64 0, .int .i64 0, (.slice none 0 0), (.slice none 0 0), .string (⟨#[]⟩ : ByteArray)] 46 (0, 0))) ∧ Aside0 (wc.heap[gb157]? = some (.cells #[.int .i64 a1, .string ((⟨#[110]⟩ : ByteArray) ++ t143), .string (rdOf ByteArray.empty y144 (ji9)), .string (rdOf ByteArray.empty y149 (ji13)), .int .i64 (wrap64 (1 + (wrap64 (t154 * 3)))), .int .i64 (wrap64 (1 + (Int.tmod t155 9))), .int .i64 (Int.tmod t156 a3), (.slice none 0 0), (.slice none 0 0), .string y009_20] 46 (0, 0))) ∧ Aside0 (Below w.heap.size w wc))
       case first =>
        have H := HC21.out
        clear HC21
        by_cases c45 : t158 > 120
        ·rw [if_pos c45] at H
         have c45b0 : decide (120 < t158) = true := decide_eq_true c45
         clear c45
         (first | rw [c45b0] | (simp only [i64_w, i32_w]; rw [c45b0]) | skip)
         replace H := Option.bind_eq_some_iff.mp H
         obtain ⟨t159, A460, H⟩ := H
         replace H : ((roadsteadlaw10_text.f k t159 30).bind fun t160 => (roadsteadlaw10_Sub.j0 k l0 a2 a3 a1 ((⟨#[110]⟩ : ByteArray) ++ t143) (rdOf ByteArray.empty y144 (ji9)) (rdOf ByteArray.empty y149 (ji13)) (wrap64 (1 + (wrap64 (t154 * 3)))) (wrap64 (1 + (Int.tmod t155 9))) (Int.tmod t156 a3) t160)) = some (r1, r2, r3, r4, r5, r6, r7, r8, r9, r10) := H
         have A46 := Aside0.mk A460
         clear A460
         replace H := Option.bind_eq_some_iff.mp H
         obtain ⟨t160, A470, H⟩ := H
         replace H : (roadsteadlaw10_Sub.j0 k l0 a2 a3 a1 ((⟨#[110]⟩ : ByteArray) ++ t143) (rdOf ByteArray.empty y144 (ji9)) (rdOf ByteArray.empty y149 (ji13)) (wrap64 (1 + (wrap64 (t154 * 3)))) (wrap64 (1 + (Int.tmod t155 9))) (Int.tmod t156 a3) t160) = some (r1, r2, r3, r4, r5, r6, r7, r8, r9, r10) := H
         have A47 := Aside0.mk A470
         clear A470
         have H' := Aside0.mk H
         clear H
         go_wp2_with (first | ((with_reducible refine gate_callee (f := 22) rfl ?_); refine goesL_ (some 48) rfl rfl Try.func22 (by kernel_rfl) rfl #[.slice A0 l0.length c0, .int .i64 5] rfl (by (try simp only [List.map_toArray, List.map_cons, List.map_nil]); first | done | rfl) ?_; (with_reducible refine (roadsteadlaw10_g.calls _ _ l0 5 t159 _ ?side1 ?side2 A46.out).mono ?_); (case side1 => exact Kd.C_below HR0.out (by repeat (with_reducible first | exact HB.out | apply below_alloc | apply pw_below_drewN | apply below_drew1 | refine below_set ?_ GE141.out | refine below_set ?_ GE157.out))); (case side2 => exact HC0.out); rintro e w' ⟨rfl, ⟨nd, rfl⟩⟩; refine ⟨_, rfl, ?_⟩) | ((with_reducible refine gate_callee (f := 35) rfl ?_); refine goesL_ (some 49) rfl rfl Try.func35 (by kernel_rfl) rfl #[.int .i64 t159, .int .i64 30] rfl (by (try simp only [List.map_toArray, List.map_cons, List.map_nil]); first | done | rfl) ?_; (with_reducible refine (roadsteadlaw10_text.calls k t159 30 t160 _ A47.out).mono ?_); rintro e w48 ⟨rfl, hb⟩; refine ⟨_, rfl, ?_⟩; have n2_ := Aside0.mk (blk_below (g := gb141) (o := .cells #[.int .i64 0, .string (⟨#[]⟩ : ByteArray), .string (⟨#[]⟩ : ByteArray), .string (⟨#[]⟩ : ByteArray), .int .i64 0, .int .i64 0, .int .i64 0, .slice none 0 0, .slice none 0 0, .string (⟨#[]⟩ : ByteArray)] 46 (0, 0)) (by (with_reducible repeat (first | refine blk_drewN ?_ _ | refine blk_drew ?_ | refine blk_alloc ?_ _)); exact BK141.out) hb); have n3_ := Aside0.mk (blk_below (g := gb157) (o := .cells #[.int .i64 a1, .string ((⟨#[110]⟩ : ByteArray) ++ t143), .string (rdOf ByteArray.empty y144 (ji9)), .string (rdOf ByteArray.empty y149 (ji13)), .int .i64 (wrap64 (1 + (wrap64 (t154 * 3)))), .int .i64 (wrap64 (1 + (Int.tmod t155 9))), .int .i64 (Int.tmod t156 a3), .slice none 0 0, .slice none 0 0, .string (⟨#[]⟩ : ByteArray)] 46 (0, 0)) (by (with_reducible repeat (first | refine blk_drewN ?_ _ | refine blk_drew ?_ | refine blk_alloc ?_ _)); exact BK157.out) hb); have n4_ := Aside0.mk (below_step (by repeat (with_reducible first | exact HB.out | apply below_alloc | apply pw_below_drewN | apply below_drew1 | refine below_set ?_ GE141.out | refine below_set ?_ GE157.out)) hb); clear BK141; clear BK157; clear HB; have BK141 := n2_; have BK157 := n3_; have HB := n4_; clear n2_ n3_ n4_; (try clear hb); have hnb49 := NB157_141.out; have hnc49 := NB141_157.out; have hcz50_0 : w48.cell? ⟨gb157, 0, none⟩ = some (.int .i64 a1) := (blk_cell BK157.out 0).trans rfl; have hcz50_1 : w48.cell? ⟨gb157, 1, none⟩ = some (.string ((⟨#[110]⟩ : ByteArray) ++ t143)) := (blk_cell BK157.out 1).trans rfl; have hcz50_2 : w48.cell? ⟨gb157, 2, none⟩ = some (.string (rdOf ByteArray.empty y144 (ji9))) := (blk_cell BK157.out 2).trans rfl; have hcz50_3 : w48.cell? ⟨gb157, 3, none⟩ = some (.string (rdOf ByteArray.empty y149 (ji13))) := (blk_cell BK157.out 3).trans rfl; have hcz50_4 : w48.cell? ⟨gb157, 4, none⟩ = some (.int .i64 (wrap64 (1 + (wrap64 (t154 * 3))))) := (blk_cell BK157.out 4).trans rfl; have hcz50_5 : w48.cell? ⟨gb157, 5, none⟩ = some (.int .i64 (wrap64 (1 + (Int.tmod t155 9)))) := (blk_cell BK157.out 5).trans rfl; have hcz50_6 : w48.cell? ⟨gb157, 6, none⟩ = some (.int .i64 (Int.tmod t156 a3)) := (blk_cell BK157.out 6).trans rfl; have hcz50_7 : w48.cell? ⟨gb157, 7, none⟩ = some (.slice none 0 0) := (blk_cell BK157.out 7).trans rfl; have hcz50_8 : w48.cell? ⟨gb157, 8, none⟩ = some (.slice none 0 0) := (blk_cell BK157.out 8).trans rfl; have hcz50_9 : w48.cell? ⟨gb157, 9, none⟩ = some (.string (⟨#[]⟩ : ByteArray)) := (blk_cell BK157.out 9).trans rfl; have hfz50_0 := blk_frozen BK157.out 0; have hfz50_1 := blk_frozen BK157.out 1; have hfz50_2 := blk_frozen BK157.out 2; have hfz50_3 := blk_frozen BK157.out 3; have hfz50_4 := blk_frozen BK157.out 4; have hfz50_5 := blk_frozen BK157.out 5; have hfz50_6 := blk_frozen BK157.out 6; have hfz50_7 := blk_frozen BK157.out 7; have hfz50_8 := blk_frozen BK157.out 8; have hfz50_9 := blk_frozen BK157.out 9))
         go_meet
         case rel => exact ⟨_, (t160), H', ⟨by first | omega | exact Nat.le_refl _⟩, ⟨by (with_reducible repeat (first | refine blk_drewN ?_ _ | refine blk_drew ?_ | refine blk_alloc ?_ _)); refine blk_far ?_ NB141_157.out _; exact BK141.out⟩, ⟨by (with_reducible repeat (first | refine blk_drewN ?_ _ | refine blk_drew ?_ | refine blk_alloc ?_ _)); refine blk_put (cs := #[.int .i64 a1, .string ((⟨#[110]⟩ : ByteArray) ++ t143), .string (rdOf ByteArray.empty y144 (ji9)), .string (rdOf ByteArray.empty y149 (ji13)), .int .i64 (wrap64 (1 + (wrap64 (t154 * 3)))), .int .i64 (wrap64 (1 + (Int.tmod t155 9))), .int .i64 (Int.tmod t156 a3), .slice none 0 0, .slice none 0 0, .string (⟨#[]⟩ : ByteArray)]) ?_ 9 _ rfl; exact BK157.out⟩, ⟨by repeat (with_reducible first | exact HB.out | apply below_alloc | apply pw_below_drewN | apply below_drew1 | refine below_set ?_ GE141.out | refine below_set ?_ GE157.out)⟩⟩
        ·rw [if_neg c45] at H
         have c45b0 : decide (120 < t158) = false := decide_eq_false c45
         clear c45
         (first | rw [c45b0] | (simp only [i64_w, i32_w]; rw [c45b0]) | skip)
         have H' := Aside0.mk H
         clear H
         go_wp2
         go_meet
         case rel => exact ⟨_, ((⟨#[]⟩ : ByteArray)), H', ⟨by first | omega | exact Nat.le_refl _⟩, ⟨by (with_reducible repeat (first | refine blk_drewN ?_ _ | refine blk_drew ?_ | refine blk_alloc ?_ _)); exact BK141.out⟩, ⟨by (with_reducible repeat (first | refine blk_drewN ?_ _ | refine blk_drew ?_ | refine blk_alloc ?_ _)); exact BK157.out⟩, ⟨by repeat (with_reducible first | exact HB.out | apply below_alloc | apply pw_below_drewN | apply below_drew1 | refine below_set ?_ GE141.out | refine below_set ?_ GE157.out)⟩⟩
       case rest =>
        clear HC21
        try clear p1
        try clear q1
        try clear hx1
        try clear c2
        try clear p2
        try clear c3
        try clear c4
        try clear p6
        try clear p14
        try clear q14
        try clear hx14
        try clear p15
        try clear q15
        try clear hx15
        try clear c22
        try clear c35
        try clear c45
        try clear c45b0
        try clear c49
        try clear hcz50_0
        try clear hcz50_1
        try clear hcz50_2
        try clear hcz50_3
        try clear hcz50_4
        try clear hcz50_5
        try clear hcz50_6
        try clear hcz50_7
        try clear hcz50_8
        try clear hcz50_9
        try clear hfz50_0
        try clear hfz50_1
        try clear hfz50_2
        try clear hfz50_3
        try clear hfz50_4
        try clear hfz50_5
        try clear hfz50_6
        try clear hfz50_7
        try clear hfz50_8
        try clear hfz50_9
        try clear hx148_0
        try clear hx153_0
        try clear p148
        try clear p153
        try clear q148
        try clear q153
        obtain ⟨kq, y009_20, HA, HJ20, BK141, BK157, HB⟩ := hcut
        cases kq with
        | zero => exact absurd HA.out (by simp [roadsteadlaw10_Sub.j0])
        | succ kj20 =>
         have H := HA.out
         clear HA
         simp only [roadsteadlaw10_Sub.j0] at H
         have H' := Aside0.mk H
         clear H
         have hnb51 := NB157_141.out
         have hnc51 := NB141_157.out
         have hcz52_0 : wc.cell? ⟨gb157, 0, none⟩ = some (.int .i64 a1) := (blk_cell BK157.out 0).trans rfl
         have hcz52_1 : wc.cell? ⟨gb157, 1, none⟩ = some (.string ((⟨#[110]⟩ : ByteArray) ++ t143)) := (blk_cell BK157.out 1).trans rfl
         have hcz52_2 : wc.cell? ⟨gb157, 2, none⟩ = some (.string (rdOf ByteArray.empty y144 (ji9))) := (blk_cell BK157.out 2).trans rfl
         have hcz52_3 : wc.cell? ⟨gb157, 3, none⟩ = some (.string (rdOf ByteArray.empty y149 (ji13))) := (blk_cell BK157.out 3).trans rfl
         have hcz52_4 : wc.cell? ⟨gb157, 4, none⟩ = some (.int .i64 (wrap64 (1 + (wrap64 (t154 * 3))))) := (blk_cell BK157.out 4).trans rfl
         have hcz52_5 : wc.cell? ⟨gb157, 5, none⟩ = some (.int .i64 (wrap64 (1 + (Int.tmod t155 9)))) := (blk_cell BK157.out 5).trans rfl
         have hcz52_6 : wc.cell? ⟨gb157, 6, none⟩ = some (.int .i64 (Int.tmod t156 a3)) := (blk_cell BK157.out 6).trans rfl
         have hcz52_7 : wc.cell? ⟨gb157, 7, none⟩ = some (.slice none 0 0) := (blk_cell BK157.out 7).trans rfl
         have hcz52_8 : wc.cell? ⟨gb157, 8, none⟩ = some (.slice none 0 0) := (blk_cell BK157.out 8).trans rfl
         have hcz52_9 : wc.cell? ⟨gb157, 9, none⟩ = some (.string y009_20) := (blk_cell BK157.out 9).trans rfl
         have hfz52_0 := blk_frozen BK157.out 0
         have hfz52_1 := blk_frozen BK157.out 1
         have hfz52_2 := blk_frozen BK157.out 2
         have hfz52_3 := blk_frozen BK157.out 3
         have hfz52_4 := blk_frozen BK157.out 4
         have hfz52_5 := blk_frozen BK157.out 5
         have hfz52_6 := blk_frozen BK157.out 6
         have hfz52_7 := blk_frozen BK157.out 7
         have hfz52_8 := blk_frozen BK157.out 8
         have hfz52_9 := blk_frozen BK157.out 9
         go_wp2
         go_loopg [10, 11] kj20 (fun kq v10 v11 w' => ∃ (x10_2 : Int) (x11_2 : Int) (y007_2 : List Int) (y008_2 : List (S68)) (z7 : Value) (z8 : Value), v10 = .int .i64 x10_2 ∧ v11 = .int .i64 x11_2 ∧ Aside0 (roadsteadlaw10_Sub.l0 kq l0 a2 a3 x10_2 x11_2 a1 ((⟨#[110]⟩ : ByteArray) ++ t143) (rdOf ByteArray.empty y144 (ji9)) (rdOf ByteArray.empty y149 (ji13)) (wrap64 (1 + (wrap64 (t154 * 3)))) (wrap64 (1 + (Int.tmod t155 9))) (Int.tmod t156 a3) y007_2 y008_2 y009_20 = some (r1, r2, r3, r4, r5, r6, r7, r8, r9, r10)) ∧ Aside0 (kq ≤ kj20) ∧ Aside0 (Kd.R (Kd.int .i64) 3 w' w.heap.size (fun _ => True) z7 y007_2) ∧ Aside0 (Kd.R k68 68 w' w.heap.size (fun _ => True) z8 y008_2) ∧ Aside0 (w'.heap[gb141]? = some (.cells #[.int .i64 0, .string (⟨#[]⟩ : ByteArray), .string (⟨#[]⟩ : ByteArray), .string (⟨#[]⟩ : ByteArray), .int .i64 0, .int .i64 0, .int .i64 0, (.slice none 0 0), (.slice none 0 0), .string (⟨#[]⟩ : ByteArray)] 46 (0, 0))) ∧ Aside0 (w'.heap[gb157]? = some (.cells #[.int .i64 a1, .string ((⟨#[110]⟩ : ByteArray) ++ t143), .string (rdOf ByteArray.empty y144 (ji9)), .string (rdOf ByteArray.empty y149 (ji13)), .int .i64 (wrap64 (1 + (wrap64 (t154 * 3)))), .int .i64 (wrap64 (1 + (Int.tmod t155 9))), .int .i64 (Int.tmod t156 a3), z7, z8, .string y009_20] 46 (0, 0))) ∧ Aside0 (Below w.heap.size w w'))
         case atStart => exact ⟨((Int.tmod t156 a3)), (6), (([] : List Int)), (([] : List (S68))), (.slice none 0 0), (.slice none 0 0), (by first | rfl | (simp; done) | (simp [*]; done)), (by first | rfl | (simp; done) | (simp [*]; done)), H', ⟨Nat.le_refl _⟩, ⟨by first | exact Kd.R_nil _ _ _ _ _ | exact Kd.N_nil _ _ _ _ _ | exact Kd.V_nil _ _ _ _ _ | exact Kd.Q_nil _ _ _ _ _ | exact Kd.S_nil _ _ _ _ _⟩, ⟨by first | exact Kd.R_nil _ _ _ _ _ | exact Kd.N_nil _ _ _ _ _ | exact Kd.V_nil _ _ _ _ _ | exact Kd.Q_nil _ _ _ _ _ | exact Kd.S_nil _ _ _ _ _⟩, ⟨by (with_reducible repeat (first | refine blk_drewN ?_ _ | refine blk_drew ?_ | refine blk_alloc ?_ _)); exact BK141.out⟩, ⟨by (with_reducible repeat (first | refine blk_drewN ?_ _ | refine blk_drew ?_ | refine blk_alloc ?_ _)); exact BK157.out⟩, ⟨by repeat (with_reducible first | exact HB.out | apply below_alloc | apply pw_below_drewN | apply below_drew1 | refine below_set ?_ GE141.out | refine below_set ?_ GE157.out)⟩⟩
         case round =>
          clear H'
          try clear p1
          try clear q1
          try clear hx1
          try clear c2
          try clear p2
          try clear c3
          try clear c4
          try clear c5
          try clear p6
          try clear p14
          try clear q14
          try clear hx14
          try clear p15
          try clear q15
          try clear hx15
          try clear c22
          try clear c35
          try clear c45
          try clear c45b0
          try clear c49
          try clear c51
          try clear hcz50_0
          try clear hcz50_1
          try clear hcz50_2
          try clear hcz50_3
          try clear hcz50_4
          try clear hcz50_5
          try clear hcz50_6
          try clear hcz50_7
          try clear hcz50_8
          try clear hcz50_9
          try clear hcz52_0
          try clear hcz52_1
          try clear hcz52_2
          try clear hcz52_3
          try clear hcz52_4
          try clear hcz52_5
          try clear hcz52_6
          try clear hcz52_7
          try clear hcz52_8
          try clear hcz52_9
          try clear hfz50_0
          try clear hfz50_1
          try clear hfz50_2
          try clear hfz50_3
          try clear hfz50_4
          try clear hfz50_5
          try clear hfz50_6
          try clear hfz50_7
          try clear hfz50_8
          try clear hfz50_9
          try clear hfz52_0
          try clear hfz52_1
          try clear hfz52_2
          try clear hfz52_3
          try clear hfz52_4
          try clear hfz52_5
          try clear hfz52_6
          try clear hfz52_7
          try clear hfz52_8
          try clear hfz52_9
          try clear hx148_0
          try clear hx153_0
          try clear p1
          try clear p14
          try clear p148
          try clear p15
          try clear p153
          try clear p2
          try clear p6
          try clear q1
          try clear q14
          try clear q148
          try clear q15
          try clear q153
          obtain ⟨x10_2, x11_2, y007_2, y008_2, z7, z8, rfl, rfl, HA, HK2, P7, P8, BK141, BK157, HB⟩ := hrel
          cases gk with
          | zero => exact absurd HA.out (by simp [roadsteadlaw10_Sub.l0])
          | succ k2 =>
           have H := HA.out
           clear HA
           simp only [roadsteadlaw10_Sub.l0] at H
           have HC53 := Aside0.mk H
           clear H
           go_upto_region 6 with (fail)
           go_cut [61] (fun v61 wc => ∃ (kq : Nat) (x61_52 : Bool), v61 = .bool x61_52 ∧ Aside0 (roadsteadlaw10_Sub.j2 kq l0 a2 a3 x10_2 x11_2 x61_52 a1 ((⟨#[110]⟩ : ByteArray) ++ t143) (rdOf ByteArray.empty y144 (ji9)) (rdOf ByteArray.empty y149 (ji13)) (wrap64 (1 + (wrap64 (t154 * 3)))) (wrap64 (1 + (Int.tmod t155 9))) (Int.tmod t156 a3) y007_2 y008_2 y009_20 = some (r1, r2, r3, r4, r5, r6, r7, r8, r9, r10)) ∧ Aside0 (kq ≤ k2) ∧ Aside0 (Kd.R (Kd.int .i64) 3 wc w.heap.size (fun _ => True) z7 y007_2) ∧ Aside0 (Kd.R k68 68 wc w.heap.size (fun _ => True) z8 y008_2) ∧ Aside0 (wc.heap[gb141]? = some (.cells #[.int .i64 0, .string (⟨#[]⟩ : ByteArray), .string (⟨#[]⟩ : ByteArray), .string (⟨#[]⟩ : ByteArray), .int .i64 0, .int .i64 0, .int .i64 0, (.slice none 0 0), (.slice none 0 0), .string (⟨#[]⟩ : ByteArray)] 46 (0, 0))) ∧ Aside0 (wc.heap[gb157]? = some (.cells #[.int .i64 a1, .string ((⟨#[110]⟩ : ByteArray) ++ t143), .string (rdOf ByteArray.empty y144 (ji9)), .string (rdOf ByteArray.empty y149 (ji13)), .int .i64 (wrap64 (1 + (wrap64 (t154 * 3)))), .int .i64 (wrap64 (1 + (Int.tmod t155 9))), .int .i64 (Int.tmod t156 a3), z7, z8, .string y009_20] 46 (0, 0))) ∧ Aside0 (Below w.heap.size w wc))
           case first =>
            have H := HC53.out
            clear HC53
            by_cases c54 : (wrap64 (x11_2 + 3)) < (l0.length : Int)
            ·rw [if_pos c54] at H
             have c54b0 : decide ((wrap64 (x11_2 + 3)) < (l0.length : Int)) = true := decide_eq_true c54
             clear c54
             (first | rw [c54b0] | (simp only [i64_w, i32_w]; rw [c54b0]) | skip)
             have H' := Aside0.mk H
             clear H
             go_wp2
             go_meet
             case rel => exact ⟨_, (decide (x11_2 < 66)), (by first | rfl | (simp; done) | (simp [*]; done)), H', ⟨by have := HJ20.out; have := HK2.out; first | omega | exact Nat.le_refl _⟩, ⟨by (with_reducible repeat (first | apply Kd.R_alloc | apply Kd.R_drewN | apply Kd.R_drew)); exact P7.out⟩, ⟨by (with_reducible repeat (first | apply Kd.R_alloc | apply Kd.R_drewN | apply Kd.R_drew)); exact P8.out⟩, ⟨by (with_reducible repeat (first | refine blk_drewN ?_ _ | refine blk_drew ?_ | refine blk_alloc ?_ _)); exact BK141.out⟩, ⟨by (with_reducible repeat (first | refine blk_drewN ?_ _ | refine blk_drew ?_ | refine blk_alloc ?_ _)); exact BK157.out⟩, ⟨by repeat (with_reducible first | exact HB.out | apply below_alloc | apply pw_below_drewN | apply below_drew1 | refine below_set ?_ GE141.out | refine below_set ?_ GE157.out)⟩⟩
            ·rw [if_neg c54] at H
             have c54b0 : decide ((wrap64 (x11_2 + 3)) < (l0.length : Int)) = false := decide_eq_false c54
             clear c54
             (first | rw [c54b0] | (simp only [i64_w, i32_w]; rw [c54b0]) | skip)
             have H' := Aside0.mk H
             clear H
             go_wp2
             go_meet
             case rel => exact ⟨_, (false), (by first | rfl | (simp; done) | (simp [*]; done)), H', ⟨by have := HJ20.out; have := HK2.out; first | omega | exact Nat.le_refl _⟩, ⟨by (with_reducible repeat (first | apply Kd.R_alloc | apply Kd.R_drewN | apply Kd.R_drew)); exact P7.out⟩, ⟨by (with_reducible repeat (first | apply Kd.R_alloc | apply Kd.R_drewN | apply Kd.R_drew)); exact P8.out⟩, ⟨by (with_reducible repeat (first | refine blk_drewN ?_ _ | refine blk_drew ?_ | refine blk_alloc ?_ _)); exact BK141.out⟩, ⟨by (with_reducible repeat (first | refine blk_drewN ?_ _ | refine blk_drew ?_ | refine blk_alloc ?_ _)); exact BK157.out⟩, ⟨by repeat (with_reducible first | exact HB.out | apply below_alloc | apply pw_below_drewN | apply below_drew1 | refine below_set ?_ GE141.out | refine below_set ?_ GE157.out)⟩⟩
           case rest =>
            clear HC53
            try clear p1
            try clear q1
            try clear hx1
            try clear c2
            try clear p2
            try clear c3
            try clear c4
            try clear c5
            try clear p6
            try clear p14
            try clear q14
            try clear hx14
            try clear p15
            try clear q15
            try clear hx15
            try clear c22
            try clear c35
            try clear c45
            try clear c45b0
            try clear c49
            try clear c51
            try clear c54
            try clear c54b0
            try clear hcz50_0
            try clear hcz50_1
            try clear hcz50_2
            try clear hcz50_3
            try clear hcz50_4
            try clear hcz50_5
            try clear hcz50_6
            try clear hcz50_7
            try clear hcz50_8
            try clear hcz50_9
            try clear hcz52_0
            try clear hcz52_1
            try clear hcz52_2
            try clear hcz52_3
            try clear hcz52_4
            try clear hcz52_5
            try clear hcz52_6
            try clear hcz52_7
            try clear hcz52_8
            try clear hcz52_9
            try clear hfz50_0
            try clear hfz50_1
            try clear hfz50_2
            try clear hfz50_3
            try clear hfz50_4
            try clear hfz50_5
            try clear hfz50_6
            try clear hfz50_7
            try clear hfz50_8
            try clear hfz50_9
            try clear hfz52_0
            try clear hfz52_1
            try clear hfz52_2
            try clear hfz52_3
            try clear hfz52_4
            try clear hfz52_5
            try clear hfz52_6
            try clear hfz52_7
            try clear hfz52_8
            try clear hfz52_9
            try clear hx148_0
            try clear hx153_0
            try clear p1
            try clear p14
            try clear p148
            try clear p15
            try clear p153
            try clear p2
            try clear p6
            try clear q1
            try clear q14
            try clear q148
            try clear q15
            try clear q153
            rename_i za_1 za_2 za_3 za_4 za_5 za_6 za_7 za_8 za_9 za_10 za_11 za_12 za_13 za_14 za_15 za_16 za_17 za_18 za_19 za_20 za_21 za_22 za_23 za_24 za_25 za_26 za_27 za_28 za_29 za_30 za_31 za_32 za_33 za_34 za_35 za_36 za_37 za_38 za_39 za_40 za_41 za_42 za_43 za_44 za_45 za_46 za_47 za_48 za_49 za_50 za_51 za_52 za_53 za_54 za_55 za_56 za_57 za_58 za_59 za_60 za_61 za_62 za_63 za_64 za_65 za_66 za_67 za_68 za_69 za_70 za_71 za_72 za_73 za_74 za_75 za_76 za_77 za_78 za_79 za_80 za_81 za_82 za_83 za_84 za_85 za_86 za_87 za_88 za_89 za_90 za_91 za_92 za_93 za_94 za_95 za_96 za_97 za_98 za_99 za_100 za_101 za_102 za_103 za_104 za_105 za_106 za_107 za_108 za_109 za_110 za_111 za_112 za_113 za_114 za_115 za_116 za_117 za_118 za_119 za_120 za_121 za_122 za_123 za_124 za_125 za_126 za_127 za_128 za_129 za_130 za_131 za_132 za_133 za_134 za_135 za_136 za_137 za_138 za_139 za_140 za_141 za_142 za_143 za_144 za_145 za_146 za_147 za_148 za_149 za_150 za_151 za_152 za_153 za_154 za_155 za_156 za_157 za_158 za_159 za_160 za_161 za_162 za_163 za_164 za_165 za_166 za_167 za_168 za_169 za_170 za_171 za_172 za_173 za_174 za_175 za_176 za_177 za_178 za_179 za_180 za_181 za_182 za_183 za_184 za_185 za_186 za_187 za_188 za_189 za_190 za_191 za_192 za_193 za_194 za_195 za_196 za_197 za_198 za_199 za_200 za_201 za_202 za_203 za_204 za_205 za_206 za_207 za_208 za_209 za_210 za_211 za_212 za_213 za_214 za_215 za_216 za_217 za_218 za_219 za_220 za_221 za_222 za_223 za_224 za_225 za_226 za_227 za_228 za_229 za_230 za_231 za_232 za_233 za_234 za_235 za_236 za_237 za_238 za_239 za_240 za_241 za_242 za_243 za_244 za_245 za_246 za_247 za_248 za_249 za_250 za_251 za_252 za_253 za_254 za_255 za_256 za_257 za_258 za_259 za_260 za_261 za_262 za_263 za_264 za_265 za_266 za_267 za_268 za_269 za_270 za_271 za_272 za_273 za_274 za_275 za_276 za_277 za_278 za_279 za_280 za_281 za_282 za_283 za_284 za_285 za_286 za_287 za_288 za_289 za_290 za_291 za_292 za_293 za_294 za_295 za_296 za_297 za_298 za_299 za_300 za_301 za_302 za_303 za_304 za_305 za_306 za_307 za_308 za_309 za_310 za_311 za_312 za_313 za_314 za_315 za_316 za_317 za_318 za_319 za_320 za_321 za_322 za_323 za_324 za_325
            revert k A0 c0 l0 a1 a2 a3 r1 r2 r3 r4 r5 r6 r7 r8 r9 r10 w hu46 hu68 HR0 HC0 t142 A5 t143 A6 c7 c7b0 c7b1 c7b2 y144 Ny144 t147 A8 ji9 hji9 c10b0 c11b0 y149 Ny149 A12 ji13 hji13 c14b0 c15b0 t154 A16 t155 A17 t156 A18 c19 c19b0 c19b1 t158 A20 za_1 gb141 w22 GW141 GE141 za_2 za_3 za_4 za_5 za_6 za_7 za_8 za_9 za_10 za_11 za_12 za_13 za_14 za_15 za_16 za_17 za_18 za_19 za_20 za_21 za_22 za_23 za_24 za_25 za_26 za_27 za_28 za_29 za_30 za_31 za_32 gb157 w32 GE157 GW157 NB141_157 NB157_141 za_33 za_34 za_35 nd za_36 u13 u14 u15 u16 u17 u18 u19 u20 u21 u22 u23 u24 u25 u26 u27 u28 u29 u30 u31 u32 u33 u34 u35 u36 u37 u38 u39 u40 u41 u42 u43 u44 u45 u46 u47 u48 u49 u50 u51 u52 za_37 za_38 za_39 za_40 za_41 za_42 za_43 za_44 za_45 za_46 za_47 za_48 za_49 za_50 za_51 za_52 za_53 za_54 za_55 za_56 za_57 za_58 za_59 za_60 za_61 za_62 za_63 za_64 za_65 za_66 za_67 za_68 za_69 za_70 za_71 za_72 za_73 za_74 za_75 za_76 za_77 za_78 za_79 za_80 za_81 za_82 za_83 za_84 za_85 za_86 za_87 za_88 za_89 za_90 za_91 za_92 za_93 za_94 za_95 za_96 za_97 za_98 za_99 za_100 za_101 za_102 za_103 za_104 za_105 za_106 za_107 za_108 za_109 za_110 za_111 za_112 za_113 za_114 za_115 za_116 za_117 za_118 za_119 za_120 za_121 za_122 za_123 za_124 za_125 za_126 za_127 za_128 za_129 za_130 za_131 za_132 za_133 za_134 za_135 za_136 za_137 za_138 za_139 za_140 za_141 za_142 za_143 za_144 za_145 za_146 za_147 za_148 za_149 za_150 za_151 za_152 za_153 za_154 za_155 za_156 za_157 za_158 za_159 za_160 za_161 za_162 za_163 za_164 za_165 za_166 za_167 za_168 za_169 za_170 za_171 za_172 za_173 za_174 u195 y009_20 za_175 za_176 za_177 kj20 HJ20 hnb51 hnc51 za_178 za_179 wr u12 za_180 za_181 za_182 za_183 za_184 za_185 za_186 za_187 za_188 za_189 za_190 za_191 za_192 za_193 za_194 za_195 za_196 za_197 za_198 za_199 za_200 za_201 za_202 za_203 za_204 za_205 za_206 za_207 za_208 za_209 za_210 za_211 za_212 za_213 za_214 za_215 za_216 za_217 za_218 za_219 za_220 za_221 za_222 za_223 za_224 za_225 za_226 za_227 za_228 za_229 za_230 za_231 za_232 za_233 za_234 za_235 za_236 za_237 za_238 za_239 za_240 za_241 za_242 za_243 za_244 za_245 za_246 za_247 za_248 za_249 za_250 za_251 za_252 za_253 za_254 za_255 za_256 za_257 za_258 za_259 za_260 u134 u135 za_261 za_262 za_263 za_264 za_265 za_266 za_267 za_268 za_269 za_270 za_271 u147 za_272 za_273 za_274 za_275 za_276 za_277 za_278 za_279 za_280 za_281 za_282 za_283 za_284 za_285 za_286 za_287 za_288 za_289 za_290 za_291 za_292 za_293 za_294 za_295 za_296 u173 za_297 za_298 za_299 za_300 za_301 za_302 za_303 za_304 za_305 za_306 za_307 za_308 za_309 za_310 za_311 za_312 za_313 za_314 za_315 za_316 za_317 za_318 za_319 za_320 x10_2 x11_2 y007_2 y008_2 z7 z8 P7 P8 BK141 BK157 HB k2 za_321 HK2 za_322 za_323 za_324 za_325 wc u53 u54 u55 u56 u57 u58 u59 u60 u61 u62 u63 u64 u65 u66 u67 u68 u69 u70 u71 u72 u73 u74 u75 u76 u77 u78 u79 u80 u81 u82 u83 u84 u85 u86 u87 u88 u89 u90 u91 u92 u93 u94 u95 u96 u97 u98 u99 u100 u101 u102 u103 u104 u105 u106 u107 u108 u109 u110 u111 u112 u113 u114 u115 u116 u117 u118 u119 u120 u121 u122 u123 u124 u125 u126 u127 u128 u129 u130 u131 u132 u133 u136 u137 u138 u139 u140 u141 u142 u143 u144 u145 u146 u148 u149 u150 u151 u152 u153 u154 u155 u156 u157 u158 u159 u160 u161 u162 u163 u164 u165 u166 u167 u168 u169 u170 u171 u172 u174 u175 u176 u177 u178 u179 u180 u181 u182 u183 u184 u185 u186 u187 u188 u189 u190 u191 u192 u193 u194 hcut
            exact hP_.out
     ·rw [if_neg c15] at H
      exact absurd H (by simp)
    ·rw [if_neg c14] at H
     exact absurd H (by simp)
   ·rw [if_neg c11] at H
    exact absurd H (by simp)
  ·rw [if_neg c10] at H
   exact absurd H (by simp)
 ·rw [if_neg c7] at H
  exact absurd H (by simp)

end Go.Proofs.Ytajfefjmfelnbaa.BState
