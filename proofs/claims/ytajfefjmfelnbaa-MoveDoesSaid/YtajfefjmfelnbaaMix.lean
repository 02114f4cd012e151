/- roadsteadlaw15.Mix: the walk. -/
import Derived.Test.YtajfefjmfelnbaaStep
namespace Go.Proofs.Ytajfefjmfelnbaa
open Go.RowKit Go.Proofs.YtajfefjmfelnbaaW.PrintWords Go.Proofs.YtajfefjmfelnbaaW.PrintLast Go.Proofs.YtajfefjmfelnbaaW.PrintMore BState
set_option linter.unusedVariables false
def mixTo (v : Int) : Int := if v = 3 then 2 else v % 3 + 1
def mixI (k : Int) : Int × Int × Int × Bool :=
  if 64 ≤ k then (1 + k % 3, mixTo (1 + k % 3), k / 16 % 9, k % 2 == 0) else (1 + k % 3, 1 + k % 3, 0, false)
set_option maxRecDepth 100000 in
set_option maxHeartbeats 1000000 in
theorem mix.walk (k : Int) (h0 : 0 ≤ k) (h1 : k ≤ 255) (w : World) : Calls Try.prog 12 #[.int .u8 k] w fun e w' => e = .returned (.agg #[.int .i64 (mixI k).1, .int .i64 (mixI k).2.1, .int .i64 (mixI k).2.2.1, .bool (mixI k).2.2.2]) ∧ Below w.heap.size w w' := by
  have hu23 := Try.underlying23
  by_cases h64 : 64 ≤ k
  · have hd : decide (64 ≤ k) = true := decide_eq_true h64
    by_cases h3 : k % 3 = 2
    · have HE : Aside0 (mixI k = (1 + k % 3, 2, k / 16 % 9, k % 2 == 0)) := ⟨by unfold mixI mixTo; rw [if_pos h64, if_pos (by omega)]⟩
      have hb : ((1 + k % 3 : Int) == 3) = true := by simp; omega
      clear h3 h64
      go_enter Try.func12, Try.ntmps12
      go_wp2
      exact bodyPost_ret (v := .agg #[.int .i64 (1 + k % 3), .int .i64 2, .int .i64 (k / 16 % 9), .bool (k % 2 == 0)]) (by simp [results, Try.results12, go_sem]) rfl ⟨by rw [HE.out], ((Below.refl _ _).alloc (Nat.le_refl _) _).alloc (by simp) _⟩
    · have HE : Aside0 (mixI k = (1 + k % 3, (1 + k % 3) % 3 + 1, k / 16 % 9, k % 2 == 0)) := ⟨by unfold mixI mixTo; rw [if_pos h64, if_neg (by omega)]⟩
      have hb : ((1 + k % 3 : Int) == 3) = false := by simp; omega
      clear h3 h64
      go_enter Try.func12, Try.ntmps12
      go_wp2
      exact bodyPost_ret (v := .agg #[.int .i64 (1 + k % 3), .int .i64 ((1 + k % 3) % 3 + 1), .int .i64 (k / 16 % 9), .bool (k % 2 == 0)]) (by simp [results, Try.results12, go_sem]) rfl ⟨by rw [HE.out], ((Below.refl _ _).alloc (Nat.le_refl _) _).alloc (by simp) _⟩
  · have hd : decide (64 ≤ k) = false := decide_eq_false h64
    have HE : Aside0 (mixI k = (1 + k % 3, 1 + k % 3, 0, false)) := ⟨by unfold mixI; rw [if_neg h64]⟩
    clear h64
    go_enter Try.func12, Try.ntmps12
    go_wp2
    exact bodyPost_ret (v := .agg #[.int .i64 (1 + k % 3), .int .i64 (1 + k % 3), .int .i64 0, .bool false]) (by simp [results, Try.results12, go_sem]) rfl ⟨by rw [HE.out], ((Below.refl _ _).alloc (Nat.le_refl _) _).alloc (by simp) _⟩
end Go.Proofs.Ytajfefjmfelnbaa
