/- Printed (wip/gprint.py). -/
import Derived.Test.YtajfefjmfelnbaaBStatex0
namespace Go.Proofs.Ytajfefjmfelnbaa.BState
open Go.RowKit Go.Proofs.YtajfefjmfelnbaaW.PrintWords Go.Proofs.YtajfefjmfelnbaaW.PrintLast Go.Proofs.YtajfefjmfelnbaaW.PrintMore
attribute [local go_sem] max2_int min2_int max_two min_two max_three min_three max_four min_four   -- for this text's walks alone
set_option linter.unusedVariables false
set_option linter.unusedSimpArgs false

/-! ### roadsteadlaw10_text: function 35 -/
def roadsteadlaw10_text.l0 : Nat → Int → Int → ByteArray → Int → Option (ByteArray)
  | 0, _, _, _, _ => none
  | k + 1, x0, x1, x5, x6 => if (wrap64 (x1 + 1)) = 0 then (none) else (if x6 < (Int.tmod x0 (wrap64 (x1 + 1))) then ((some (([(97 + ((Int.tmod (wrap64 (x6 + x0)) 26) % 256)) % 256] : List Int) : List Int)).bind fun y138 => (if x5.size + (strOfNums y138).size ≤ 9223372036854775807 then (roadsteadlaw10_text.l0 k x0 x1 (x5 ++ (strOfNums y138)) (wrap64 (x6 + 1))) else (none))) else (some x5))
def roadsteadlaw10_text.f (k : Nat) (a0 : Int) (a1 : Int) : Option (ByteArray) := roadsteadlaw10_text.l0 k a0 a1 (⟨#[]⟩ : ByteArray) 0
theorem roadsteadlaw10_text.mono_l : ∀ k, (∀ y0 y1 y2 y3, LeO (roadsteadlaw10_text.l0 k y0 y1 y2 y3) (roadsteadlaw10_text.l0 (k + 1) y0 y1 y2 y3))
  | 0 => fun _ _ _ _ r h => by simp [roadsteadlaw10_text.l0] at h
  | k + 1 => by
    have ih0 := roadsteadlaw10_text.mono_l k
    · intro y0 y1 y2 y3
      unfold roadsteadlaw10_text.l0
      repeat' first
      | (with_reducible exact ih0 _ _ _ _)
      | (with_reducible exact LeO.refl _)
      | (with_reducible exact LeO.none _)
      | (with_reducible refine LeO.ite ?_ ?_)
      | (with_reducible refine LeO.bind ?_ (fun _ => ?_))
      | exact ih0 _ _ _ _
      | exact LeO.none _
      | refine LeO.ite ?_ ?_
      | refine LeO.bind ?_ (fun _ => ?_)
theorem roadsteadlaw10_text.mono : ∀ a0 a1 k, LeO (roadsteadlaw10_text.f k a0 a1) (roadsteadlaw10_text.f (k + 1) a0 a1) := by
  intro a0 a1 k
  have ih0 := roadsteadlaw10_text.mono_l k
  unfold roadsteadlaw10_text.f
  repeat' first
      | (with_reducible exact ih0 _ _ _ _)
      | (with_reducible exact LeO.refl _)
      | (with_reducible exact LeO.none _)
      | (with_reducible refine LeO.ite ?_ ?_)
      | (with_reducible refine LeO.bind ?_ (fun _ => ?_))
      | exact ih0 _ _ _ _
      | exact LeO.none _
      | refine LeO.ite ?_ ?_
      | refine LeO.bind ?_ (fun _ => ?_)
set_option maxHeartbeats 8000000 in
set_option maxRecDepth 100000 in
theorem roadsteadlaw10_text.calls (k : Nat) (a0 : Int) (a1 : Int) (r : ByteArray) (w : World) (h : roadsteadlaw10_text.f k a0 a1 = some r) :
    Calls Try.prog 35 #[.int .i64 a0, .int .i64 a1] w fun e w' => e = .returned (.string r) ∧ Below w.heap.size w w' := by
  have HB := Aside0.mk (Below.refl w.heap.size w)
  have H : (roadsteadlaw10_text.l0 k a0 a1 (⟨#[]⟩ : ByteArray) 0) = some r := h
  clear h
  have H' := Aside0.mk H
  clear H
  go_enter Try.func35, Try.ntmps35
  go_wp2
  go_loopg [5, 6] k (fun kq v5 v6 w' => ∃ (x5_1 : ByteArray) (x6_1 : Int), v5 = .string x5_1 ∧ v6 = .int .i64 x6_1 ∧ Aside0 (roadsteadlaw10_text.l0 kq a0 a1 x5_1 x6_1 = some r) ∧ Aside0 (kq ≤ k) ∧ Aside0 (Below w.heap.size w w'))
  case atStart => exact ⟨((⟨#[]⟩ : ByteArray)), (0), (by first | rfl | (simp; done) | (simp [*]; done)), (by first | rfl | (simp; done) | (simp [*]; done)), H', ⟨Nat.le_refl _⟩, ⟨by repeat (with_reducible first | exact HB.out | apply below_alloc | apply pw_below_drewN | apply below_drew1)⟩⟩
  case round =>
    clear H'
    try clear p2
    obtain ⟨x5_1, x6_1, rfl, rfl, HA, HK1, HB⟩ := hrel
    cases gk with
    | zero => exact absurd HA.out (by simp [roadsteadlaw10_text.l0])
    | succ k1 =>
      have H := HA.out
      clear HA
      simp only [roadsteadlaw10_text.l0] at H
      by_cases c3 : (wrap64 (a1 + 1)) = 0
      · rw [if_pos c3] at H
        exact absurd H (by simp)
      · rw [if_neg c3] at H
        have c3b0 : ((wrap64 (a1 + 1)) == 0) = false := beq_eq_false_iff_ne.mpr c3
        have c3b1 : ((wrap64 (a1 + 1)) != 0) = true := bne_iff_ne.mpr c3
        by_cases c4 : x6_1 < (Int.tmod a0 (wrap64 (a1 + 1)))
        · rw [if_pos c4] at H
          have c4b0 : decide (x6_1 < (Int.tmod a0 (wrap64 (a1 + 1)))) = true := decide_eq_true c4
          clear c4
          obtain ⟨y138, hy138⟩ : ∃ y_ : List Int, y_ = (([(97 + ((Int.tmod (wrap64 (x6_1 + a0)) 26) % 256)) % 256] : List Int)) := ⟨_, rfl⟩
          replace H : (if x5_1.size + (strOfNums y138).size ≤ 9223372036854775807 then (roadsteadlaw10_text.l0 k1 a0 a1 (x5_1 ++ (strOfNums y138)) (wrap64 (x6_1 + 1))) else (none)) = some r := by first | (rw [hy138]; with_reducible exact H) | (have H2_ := (Option.bind_some _ _).symm.trans H; rw [hy138]; with_reducible exact H2_) | (have H2_ := (Option.bind_some _ _).symm.trans H; with_reducible exact H2_) | with_reducible exact H | (rw [hy138]; exact H) | exact H
          have Ny138 := Aside0.mk hy138
          clear hy138
          by_cases c5 : x5_1.size + (strOfNums y138).size ≤ 9223372036854775807
          · rw [if_pos c5] at H
            have c5b0 := eq_true c5
            have c5b1 : decide (x5_1.size + (strOfNums y138).size ≤ 9223372036854775807) = true := decide_eq_true c5
            try have c5b2 : (9223372036854775807 < x5_1.size + (strOfNums y138).size) = False := eq_false (Nat.not_lt.2 c5)
            have H' := Aside0.mk H
            clear H
            go_wp2_with (first | ((with_reducible refine gate_dst (N := 22) rfl ?_); refine Kd.R_lit (Kd.int .u8) _ 5 ?hg (N := 22) ?hd (xs := ([(97 + ((Int.tmod (wrap64 (x6_1 + a0)) 26) % 256)) % 256] : List Int)) (inner := [.int .u8 ((97 + ((Int.tmod (wrap64 (x6_1 + a0)) 26) % 256)) % 256)]) (ok := fun _ => True) (okp := fun _ => True) ?hr ?hp (fun _ hk => hk) trivial (Below.refl _ _) (Nat.le_refl _) (by simp) ?_; (case hd => rfl); (case hg => rfl); (case hr => first | (go_simp; done) | (go_simp; rfl)); (case hp => exact (Reps.one (show Kd.M (Kd.int .u8) _ _ _ ((97 + ((Int.tmod (wrap64 (x6_1 + a0)) 26) % 256)) % 256) [.int .u8 ((97 + ((Int.tmod (wrap64 (x6_1 + a0)) 26) % 256)) % 256)] from rfl) (Reps.none _ _))); intro v139 w6 ho7 hb hg_ hnew_; clear hg_ hnew_; (first | rw [← Ny138.out] at ho7 | (simp only [Int.reduceToNat] at ho7; rw [← Ny138.out] at ho7)); have n0_ := Aside0.mk (Kd.R_lower ho7 (below_size (by repeat (with_reducible first | exact HB.out | apply below_alloc | apply pw_below_drewN | apply below_drew1)))); have n1_ := Aside0.mk (below_step (by repeat (with_reducible first | exact HB.out | apply below_alloc | apply pw_below_drewN | apply below_drew1)) hb); clear HB; have HO140 := n0_; have HB := n1_; clear n0_ n1_; clear hb ho7; have hcv8 := own_string (P := Try.prog) Try.underlying30 Try.underlying5 Try.underlying9 (Kd.own_of_R HO140.out)))
            go_roundg k1
            case measure => have := HK1.out; omega
            case rel => exact ⟨(x5_1 ++ (strOfNums y138)), (wrap64 (x6_1 + 1)), (by first | rfl | (simp; done) | (simp [*]; done)), (by first | rfl | (simp; done) | (simp [*]; done)), H', ⟨by have := HK1.out; omega⟩, ⟨by repeat (with_reducible first | exact HB.out | apply below_alloc | apply pw_below_drewN | apply below_drew1)⟩⟩
          · rw [if_neg c5] at H
            exact absurd H (by simp)
        · rw [if_neg c4] at H
          have c4b0 : decide (x6_1 < (Int.tmod a0 (wrap64 (a1 + 1)))) = false := decide_eq_false c4
          clear c4
          obtain rfl := Option.some.inj H
          go_wp2
          go_ret
          exact ⟨by first | rfl | (simp [errW_none, errW_some] <;> rfl) | (simp [*, errW_none, errW_some] <;> rfl), by repeat (with_reducible first | exact HB.out | apply below_alloc | apply pw_below_drewN | apply below_drew1)⟩

-- NOT PRINTED: function 24 (roadsteadlaw10_Sub)

-- NOT PRINTED: function 11 (roadsteadlaw10_State)

end Go.Proofs.Ytajfefjmfelnbaa.BState
