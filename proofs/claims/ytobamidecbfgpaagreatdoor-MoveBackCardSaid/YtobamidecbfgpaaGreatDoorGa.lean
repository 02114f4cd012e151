/- Acks as gaps, and back, over the shadow. No condition. -/
import Derived.Test.YtobamidecbfgpaaGreatDoorRo
namespace Go.Proofs.YtobamidecbfgpaaGreatDoor
open Go Go.Sh Go.RowKit
set_option linter.unusedVariables false
set_option linter.unusedSimpArgs false
set_option maxRecDepth 10000
variable {W : World}
def numsB : List Nat → Str
  | [] => []
  | n :: l => numB n ++ numsB l
def gapL : Nat → List Nat → List Nat
  | _, [] => []
  | f, a :: r => (a - f) :: gapL a r
def Rise : Nat → List Nat → Prop
  | _, [] => True
  | f, a :: r => f < a ∧ Rise a r
theorem gapL_len : ∀ f l, (gapL f l).length = l.length
  | _, [] => rfl
  | f, a :: r => by simp [gapL, gapL_len a r]
theorem numsB_len : ∀ (l : List Nat), (∀ n ∈ l, n ≤ 9999) → (numsB l).length ≤ 8 * l.length
  | [], _ => by simp [numsB]
  | n :: l, h => by
    have h1 := numB_len8 (n := n) (by have := h n (by simp); omega)
    have h2 := numsB_len l (fun m hm => h m (by simp [hm]))
    simp [numsB]; omega
theorem gapL_le : ∀ (l : List Nat) (f : Nat), (∀ n ∈ l, n ≤ 9999) → ∀ n ∈ gapL f l, n ≤ 9999
  | [], _, _, n, hn => by simp [gapL] at hn
  | a :: r, f, h, n, hn => by
    simp only [gapL, List.mem_cons] at hn
    rcases hn with rfl | hn
    · have := h a (by simp); omega
    · exact gapL_le r a (fun m hm => h m (by simp [hm])) n hn
theorem acks85 (x : Sub) (hr : Rise x.floor x.acks) (hb : ∀ a ∈ x.acks, a ≤ 9999) (hn : x.acks.length ≤ 20) : Fc T W 85 [dSub x] (dBytes (numB x.acks.length ++ numsB (gapL x.floor x.acks))) := by
  have hB := numsB_len _ (gapL_le x.acks x.floor hb)
  rw [gapL_len] at hB
  have h8 := numB_len8 (n := x.acks.length) (by omega)
  refine Fc_intro (thr := thr) hmix Tryz.func85 rfl (by kernel_rfl) (by simp [Tryz.ntmps85]) ?_
  refine CW_reg fun K_ hK => ?_
  simp [wk, vk, ek, ok, buildD, fillD, thr, dSub]
  refine hK _ ?_
  refine CW_reg fun K_ hK => ?_
  simp [wk, vk, ek, ok, buildD, fillD, thr, dSub]
  refine CallT_use (nnum87 (by omega)) ?_
  simp [wk, vk, ek, ok, buildD, fillD, thr, dSub]
  refine hK _ ?_
  refine CW_reg fun K_ hK => ?_
  simp [wk, vk, ek, ok, buildD, fillD, thr, dSub]
  refine hK _ ?_
  refine CW_seq1 ?_
  refine CW_reg fun K_ hK => ?_
  simp [wk, vk, ek, ok, buildD, fillD, thr, dSub]
  refine hK _ ?_
  refine CW_for (fun j τ => ∃ (i last g : Nat) (l : Str), j = x.acks.length - i ∧ i ≤ x.acks.length ∧ numB x.acks.length ++ numsB (gapL x.floor x.acks) = l ++ numsB (gapL last (x.acks.drop i)) ∧ Rise last (x.acks.drop i) ∧ τ.fr 1 = .p 1 0 0 ∧ τ.bx 1 0 = some (dSub x) ∧ τ.fr 3 = oB g l ∧ (l ≠ [] → τ.tp 22 = some (g, l.length)) ∧ τ.fr 4 = .i .i64 last ∧ τ.fr 5 = .i .i64 i) (x.acks.length) ?_ ?_
  · exact ⟨0, x.floor, _, _, rfl, by omega, rfl, hr, by simp [upd], by simp [upd2, dSub], by simp [upd]; rfl, by simp [upd], by simp [upd], by simp [upd]⟩
  · rintro j ⟨fr, bx, tp, c⟩ ⟨i, last, g, l, rfl, hi, hl, hri, f1, b1, f3, htp, f4, f5⟩ K0 hN0 hX0 hR0 hJ0
    simp only at f1 b1 f3 htp f4 f5
    rw [dSub] at b1
    refine CW_seq1 ?_
    refine CW_reg fun K_ hK => ?_
    simp [wk, vk, ek, ok, buildD, fillD, thr, f1, b1, f3, f4, f5]
    refine hK _ ?_
    refine CW_cond rfl (fun hct16 => ?_) (fun hct16 => ?_)
    · have hil : i < x.acks.length := by simpa [wk, vk, ek, ok, f1, b1, f3, f4, f5] using hct16
      rw [List.drop_eq_getElem_cons hil] at hl hri
      have hle := hb _ (List.getElem_mem hil)
      have hlt : last < x.acks[i] := hri.1
      have e1 : IntKind.i64.wrap ((x.acks[i] : Int) - (last : Int)) = ((x.acks[i] - last : Nat) : Int) := by rw [w64 (by omega) (by omega)]; omega
      have hll : l.length ≤ 1000 := by have := congrArg List.length hl; simp at this; omega
      refine CW_sk ?_
      refine CW_seq1 ?_
      refine CW_blk fun K1 hn1 hx1 hr1 hj1 => ?_
      refine CW_reg fun K_ hK => ?_
      simp [wk, vk, ek, ok, buildD, fillD, thr, f1, b1, f3, f4, f5, hil, e1]
      refine CallT_use (onum87 htp (by omega) (by omega)) ?_
      simp [wk, vk, ek, ok, buildD, fillD, thr, f1, b1, f3, f4, f5, hil, e1]
      refine hK _ ?_
      refine CW_reg1 fun K_ hK => ?_
      simp [wk, vk, ek, ok, buildD, fillD, thr, f1, b1, f3, f4, f5, hil, e1]
      refine hK _ ?_
      refine hn1 _ ?_
      refine CW_reg1 fun K_ hK => ?_
      simp [wk, vk, ek, ok, buildD, fillD, thr, f1, b1, f3, f4, f5, hil, e1]
      refine hK _ ?_
      refine hN0 (x.acks.length - (i + 1)) _ (by omega) ⟨i + 1, x.acks[i], _, l ++ numB (x.acks[i] - last), rfl, by omega, ?_, hri.2, by simp [upd, f1], by simp [upd2, b1, dSub], by simp [upd]; rfl, by simp [upd], by simp [upd], ?_⟩
      · rw [hl, List.append_assoc]; rfl
      · simp [upd]; exact w64 (by omega) (by omega)
    · have hil : ¬ i < x.acks.length := by simpa [wk, vk, ek, ok, f1, b1, f3, f4, f5] using hct16
      rw [List.drop_of_length_le (by omega)] at hl
      simp only [gapL, numsB, List.append_nil] at hl
      subst hl
      refine CW_ex ?_
      refine hX0 _ ?_
      refine CW_reg fun K_ hK => ?_
      simp [wk, vk, ek, ok, buildD, fillD, thr, f3]
      refine hK _ ?_
      refine CW_rt ?_
      refine ends_ret ?_
      simp [Tryz.results85, resD, resL, resD1, vk, wk, ok, buildD, fillD, ek, f3]
theorem acks91 (x : Sub) (hr : Rise x.floor x.acks) (hb : ∀ a ∈ x.acks, a ≤ 9999) (hn : x.acks.length ≤ 20) : Fc T W 91 [dSub x] (dBytes (numB x.acks.length ++ numsB (gapL x.floor x.acks))) := by
  have hB := numsB_len _ (gapL_le x.acks x.floor hb)
  rw [gapL_len] at hB
  have h8 := numB_len8 (n := x.acks.length) (by omega)
  refine Fc_intro (thr := thr) hmix Tryz.func91 rfl (by kernel_rfl) (by simp [Tryz.ntmps91]) ?_
  refine CW_reg fun K_ hK => ?_
  simp [wk, vk, ek, ok, buildD, fillD, thr, dSub]
  refine hK _ ?_
  refine CW_reg fun K_ hK => ?_
  simp [wk, vk, ek, ok, buildD, fillD, thr, dSub]
  refine CallT_use (nnum92 (by omega)) ?_
  simp [wk, vk, ek, ok, buildD, fillD, thr, dSub]
  refine hK _ ?_
  refine CW_reg fun K_ hK => ?_
  simp [wk, vk, ek, ok, buildD, fillD, thr, dSub]
  refine hK _ ?_
  refine CW_seq1 ?_
  refine CW_reg fun K_ hK => ?_
  simp [wk, vk, ek, ok, buildD, fillD, thr, dSub]
  refine hK _ ?_
  refine CW_for (fun j τ => ∃ (i last g : Nat) (l : Str), j = x.acks.length - i ∧ i ≤ x.acks.length ∧ numB x.acks.length ++ numsB (gapL x.floor x.acks) = l ++ numsB (gapL last (x.acks.drop i)) ∧ Rise last (x.acks.drop i) ∧ τ.fr 1 = .p 1 0 0 ∧ τ.bx 1 0 = some (dSub x) ∧ τ.fr 3 = oB g l ∧ (l ≠ [] → τ.tp 22 = some (g, l.length)) ∧ τ.fr 4 = .i .i64 last ∧ τ.fr 5 = .i .i64 i) (x.acks.length) ?_ ?_
  · exact ⟨0, x.floor, _, _, rfl, by omega, rfl, hr, by simp [upd], by simp [upd2, dSub], by simp [upd]; rfl, by simp [upd], by simp [upd], by simp [upd]⟩
  · rintro j ⟨fr, bx, tp, c⟩ ⟨i, last, g, l, rfl, hi, hl, hri, f1, b1, f3, htp, f4, f5⟩ K0 hN0 hX0 hR0 hJ0
    simp only at f1 b1 f3 htp f4 f5
    rw [dSub] at b1
    refine CW_seq1 ?_
    refine CW_reg fun K_ hK => ?_
    simp [wk, vk, ek, ok, buildD, fillD, thr, f1, b1, f3, f4, f5]
    refine hK _ ?_
    refine CW_cond rfl (fun hct16 => ?_) (fun hct16 => ?_)
    · have hil : i < x.acks.length := by simpa [wk, vk, ek, ok, f1, b1, f3, f4, f5] using hct16
      rw [List.drop_eq_getElem_cons hil] at hl hri
      have hle := hb _ (List.getElem_mem hil)
      have hlt : last < x.acks[i] := hri.1
      have e1 : IntKind.i64.wrap ((x.acks[i] : Int) - (last : Int)) = ((x.acks[i] - last : Nat) : Int) := by rw [w64 (by omega) (by omega)]; omega
      have hll : l.length ≤ 1000 := by have := congrArg List.length hl; simp at this; omega
      refine CW_sk ?_
      refine CW_seq1 ?_
      refine CW_blk fun K1 hn1 hx1 hr1 hj1 => ?_
      refine CW_reg fun K_ hK => ?_
      simp [wk, vk, ek, ok, buildD, fillD, thr, f1, b1, f3, f4, f5, hil, e1]
      refine CallT_use (onum92 htp (by omega) (by omega)) ?_
      simp [wk, vk, ek, ok, buildD, fillD, thr, f1, b1, f3, f4, f5, hil, e1]
      refine hK _ ?_
      refine CW_reg1 fun K_ hK => ?_
      simp [wk, vk, ek, ok, buildD, fillD, thr, f1, b1, f3, f4, f5, hil, e1]
      refine hK _ ?_
      refine hn1 _ ?_
      refine CW_reg1 fun K_ hK => ?_
      simp [wk, vk, ek, ok, buildD, fillD, thr, f1, b1, f3, f4, f5, hil, e1]
      refine hK _ ?_
      refine hN0 (x.acks.length - (i + 1)) _ (by omega) ⟨i + 1, x.acks[i], _, l ++ numB (x.acks[i] - last), rfl, by omega, ?_, hri.2, by simp [upd, f1], by simp [upd2, b1, dSub], by simp [upd]; rfl, by simp [upd], by simp [upd], ?_⟩
      · rw [hl, List.append_assoc]; rfl
      · simp [upd]; exact w64 (by omega) (by omega)
    · have hil : ¬ i < x.acks.length := by simpa [wk, vk, ek, ok, f1, b1, f3, f4, f5] using hct16
      rw [List.drop_of_length_le (by omega)] at hl
      simp only [gapL, numsB, List.append_nil] at hl
      subst hl
      refine CW_ex ?_
      refine hX0 _ ?_
      refine CW_reg fun K_ hK => ?_
      simp [wk, vk, ek, ok, buildD, fillD, thr, f3]
      refine hK _ ?_
      refine CW_rt ?_
      refine ends_ret ?_
      simp [Tryz.results91, resD, resL, resD1, vk, wk, ok, buildD, fillD, ek, f3]
theorem gaps71 (l : List Nat) (hb : ∀ a ∈ l, a ≤ 9999) (hn : l.length ≤ 20) : Fc T W 71 [dBytes (numB l.length ++ numsB l)] (dInts l) := by
  have hB := numsB_len l hb
  have h8 := numB_len8 (n := l.length) (by omega)
  obtain ⟨B, hBe⟩ : ∃ B, B = numB l.length ++ numsB l := ⟨_, rfl⟩
  rw [← hBe]
  have hBl : B.length ≤ 1000 := by rw [hBe]; simp; omega
  obtain ⟨k0, hk0⟩ : ∃ k, k = (numB l.length).length := ⟨_, rfl⟩
  refine Fc_intro (thr := thr) hmix Tryz.func71 rfl (by kernel_rfl) (by simp [Tryz.ntmps71]) ?_
  refine CW_reg fun K_ hK => ?_
  simp [wk, vk, ek, ok, buildD, fillD, thr, dR]
  refine hK _ ?_
  refine CW_reg fun K_ hK => ?_
  simp [wk, vk, ek, ok, buildD, fillD, thr, dR]
  refine hK _ ?_
  refine CW_reg fun K_ hK => ?_
  simp [wk, vk, ek, ok, buildD, fillD, thr, dR]
  refine CallW_use (by have h := rNum111 (W := W) [] (numsB l) l.length (by omega) B (by simpa using hBe) (by omega) 0 rfl; rw [Nat.zero_add, ← hk0] at h; exact h) ?_
  simp [wk, vk, ek, ok, buildD, fillD, thr, dR]
  refine hK _ ?_
  refine CW_reg fun K_ hK => ?_
  simp [wk, vk, ek, ok, buildD, fillD, thr, dR]
  refine hK _ ?_
  refine CW_seq1 ?_
  refine CW_reg fun K_ hK => ?_
  simp [wk, vk, ek, ok, buildD, fillD, thr, dR]
  refine hK _ ?_
  refine CW_for (fun j τ => ∃ (i k g : Nat) (pre : Str), j = l.length - i ∧ i ≤ l.length ∧ B = pre ++ numsB (l.drop i) ∧ k = pre.length ∧ τ.fr 3 = .p 3 0 0 ∧ τ.bx 3 0 = some (dR B k) ∧ τ.fr 4 = .i .i64 l.length ∧ τ.fr 5 = oI g (l.take i) ∧ (l.take i ≠ [] → τ.tp 41 = some (g, (l.take i).length)) ∧ τ.fr 6 = .i .i64 i) (l.length) ?_ ?_
  · exact ⟨0, k0, 0, numB l.length, rfl, by omega, hBe, hk0, by simp [upd], by simp [upd2, dR], by simp [upd], by simp [upd]; rfl, by simp, by simp [upd]⟩
  · rintro j ⟨fr, bx, tp, c⟩ ⟨i, k, g, pre, rfl, hi, hB1, hk, f3, b3, f4, f5, htp, f6⟩ K0 hN0 hX0 hR0 hJ0
    simp only at f3 b3 f4 f5 htp f6
    rw [dR] at b3
    refine CW_seq1 ?_
    by_cases hil : i < l.length
    · have hle := hb _ (List.getElem_mem hil)
      have hB2 := hB1
      rw [List.drop_eq_getElem_cons hil] at hB2
      obtain ⟨k2, hk2⟩ : ∃ k2, k2 = k + (numB l[i]).length := ⟨_, rfl⟩
      refine CW_reg fun K_ hK => ?_
      simp [wk, vk, ek, ok, buildD, fillD, thr, f3, b3, f4, f5, f6, dR, hil]
      refine hK _ ?_
      refine CW_yes rfl ?_
      refine CW_sk ?_
      refine CW_seq1 ?_
      refine CW_blk fun K1 hn1 hx1 hr1 hj1 => ?_
      refine CW_reg fun K_ hK => ?_
      simp [wk, vk, ek, ok, buildD, fillD, thr, f3, b3, f4, f5, f6, dR, hil]
      refine CallW_use (by have h := rNum111 (W := W) pre (numsB (l.drop (i + 1))) l[i] (by omega) B hB2 (by omega) k hk; rw [← hk2] at h; exact h) ?_
      simp [wk, vk, ek, ok, buildD, fillD, thr, f3, b3, f4, f5, f6, dR, hil]
      refine hK _ ?_
      refine CW_reg fun K_ hK => ?_
      simp [wk, vk, ek, ok, buildD, fillD, thr, f3, b3, f4, f5, f6, dR, hil]
      refine hK _ ?_
      refine CW_reg1 fun K_ hK => ?_
      simp [wk, vk, ek, ok, buildD, fillD, thr, f3, b3, f4, f5, f6, dR, hil]
      refine AppW_use (app_I _ l[i] _ htp (by simp; omega)) ?_
      simp [wk, vk, ek, ok, buildD, fillD, thr, f3, b3, f4, f5, f6, dR, hil]
      refine hK _ ?_
      refine hn1 _ ?_
      refine CW_reg1 fun K_ hK => ?_
      simp [wk, vk, ek, ok, buildD, fillD, thr, f3, b3, f4, f5, f6, dR, hil]
      refine hK _ ?_
      refine hN0 (l.length - (i + 1)) _ (by omega) ⟨i + 1, k2, _, pre ++ numB l[i], rfl, by omega, ?_, ?_, by simp [upd, f3], by simp [upd2, dR], by simp [upd, f4], by simp [upd]; rfl, fun _ => by simp [upd]; omega, ?_⟩
      · rw [hB2, List.append_assoc]; rfl
      · simp [hk2, hk]
      · simp [upd]; exact w64 (by omega) (by omega)
    · rw [List.take_of_length_le (by omega)] at f5
      refine CW_reg fun K_ hK => ?_
      simp [wk, vk, ek, ok, buildD, fillD, thr, f3, b3, f4, f5, f6, dR, hil, f5]
      refine hK _ ?_
      refine CW_no rfl ?_
      refine CW_ex ?_
      refine hX0 _ ?_
      refine CW_reg fun K_ hK => ?_
      simp [wk, vk, ek, ok, buildD, fillD, thr, f5]
      refine hK _ ?_
      refine CW_rt ?_
      refine ends_ret ?_
      simp [Tryz.results71, resD, resL, resD1, vk, wk, ok, buildD, fillD, ek, f5]
theorem gaps106 (l : List Nat) (hb : ∀ a ∈ l, a ≤ 9999) (hn : l.length ≤ 20) : Fc T W 106 [dBytes (numB l.length ++ numsB l)] (dInts l) := by
  have hB := numsB_len l hb
  have h8 := numB_len8 (n := l.length) (by omega)
  obtain ⟨B, hBe⟩ : ∃ B, B = numB l.length ++ numsB l := ⟨_, rfl⟩
  rw [← hBe]
  have hBl : B.length ≤ 1000 := by rw [hBe]; simp; omega
  obtain ⟨k0, hk0⟩ : ∃ k, k = (numB l.length).length := ⟨_, rfl⟩
  refine Fc_intro (thr := thr) hmix Tryz.func106 rfl (by kernel_rfl) (by simp [Tryz.ntmps106]) ?_
  refine CW_reg fun K_ hK => ?_
  simp [wk, vk, ek, ok, buildD, fillD, thr, dR]
  refine hK _ ?_
  refine CW_reg fun K_ hK => ?_
  simp [wk, vk, ek, ok, buildD, fillD, thr, dR]
  refine hK _ ?_
  refine CW_reg fun K_ hK => ?_
  simp [wk, vk, ek, ok, buildD, fillD, thr, dR]
  refine CallW_use (by have h := rNum128 (W := W) [] (numsB l) l.length (by omega) B (by simpa using hBe) (by omega) 0 rfl; rw [Nat.zero_add, ← hk0] at h; exact h) ?_
  simp [wk, vk, ek, ok, buildD, fillD, thr, dR]
  refine hK _ ?_
  refine CW_reg fun K_ hK => ?_
  simp [wk, vk, ek, ok, buildD, fillD, thr, dR]
  refine hK _ ?_
  refine CW_seq1 ?_
  refine CW_reg fun K_ hK => ?_
  simp [wk, vk, ek, ok, buildD, fillD, thr, dR]
  refine hK _ ?_
  refine CW_for (fun j τ => ∃ (i k g : Nat) (pre : Str), j = l.length - i ∧ i ≤ l.length ∧ B = pre ++ numsB (l.drop i) ∧ k = pre.length ∧ τ.fr 3 = .p 3 0 0 ∧ τ.bx 3 0 = some (dR B k) ∧ τ.fr 4 = .i .i64 l.length ∧ τ.fr 5 = oI g (l.take i) ∧ (l.take i ≠ [] → τ.tp 41 = some (g, (l.take i).length)) ∧ τ.fr 6 = .i .i64 i) (l.length) ?_ ?_
  · exact ⟨0, k0, 0, numB l.length, rfl, by omega, hBe, hk0, by simp [upd], by simp [upd2, dR], by simp [upd], by simp [upd]; rfl, by simp, by simp [upd]⟩
  · rintro j ⟨fr, bx, tp, c⟩ ⟨i, k, g, pre, rfl, hi, hB1, hk, f3, b3, f4, f5, htp, f6⟩ K0 hN0 hX0 hR0 hJ0
    simp only at f3 b3 f4 f5 htp f6
    rw [dR] at b3
    refine CW_seq1 ?_
    by_cases hil : i < l.length
    · have hle := hb _ (List.getElem_mem hil)
      have hB2 := hB1
      rw [List.drop_eq_getElem_cons hil] at hB2
      obtain ⟨k2, hk2⟩ : ∃ k2, k2 = k + (numB l[i]).length := ⟨_, rfl⟩
      refine CW_reg fun K_ hK => ?_
      simp [wk, vk, ek, ok, buildD, fillD, thr, f3, b3, f4, f5, f6, dR, hil]
      refine hK _ ?_
      refine CW_yes rfl ?_
      refine CW_sk ?_
      refine CW_seq1 ?_
      refine CW_blk fun K1 hn1 hx1 hr1 hj1 => ?_
      refine CW_reg fun K_ hK => ?_
      simp [wk, vk, ek, ok, buildD, fillD, thr, f3, b3, f4, f5, f6, dR, hil]
      refine CallW_use (by have h := rNum128 (W := W) pre (numsB (l.drop (i + 1))) l[i] (by omega) B hB2 (by omega) k hk; rw [← hk2] at h; exact h) ?_
      simp [wk, vk, ek, ok, buildD, fillD, thr, f3, b3, f4, f5, f6, dR, hil]
      refine hK _ ?_
      refine CW_reg fun K_ hK => ?_
      simp [wk, vk, ek, ok, buildD, fillD, thr, f3, b3, f4, f5, f6, dR, hil]
      refine hK _ ?_
      refine CW_reg1 fun K_ hK => ?_
      simp [wk, vk, ek, ok, buildD, fillD, thr, f3, b3, f4, f5, f6, dR, hil]
      refine AppW_use (app_I _ l[i] _ htp (by simp; omega)) ?_
      simp [wk, vk, ek, ok, buildD, fillD, thr, f3, b3, f4, f5, f6, dR, hil]
      refine hK _ ?_
      refine hn1 _ ?_
      refine CW_reg1 fun K_ hK => ?_
      simp [wk, vk, ek, ok, buildD, fillD, thr, f3, b3, f4, f5, f6, dR, hil]
      refine hK _ ?_
      refine hN0 (l.length - (i + 1)) _ (by omega) ⟨i + 1, k2, _, pre ++ numB l[i], rfl, by omega, ?_, ?_, by simp [upd, f3], by simp [upd2, dR], by simp [upd, f4], by simp [upd]; rfl, fun _ => by simp [upd]; omega, ?_⟩
      · rw [hB2, List.append_assoc]; rfl
      · simp [hk2, hk]
      · simp [upd]; exact w64 (by omega) (by omega)
    · rw [List.take_of_length_le (by omega)] at f5
      refine CW_reg fun K_ hK => ?_
      simp [wk, vk, ek, ok, buildD, fillD, thr, f3, b3, f4, f5, f6, dR, hil, f5]
      refine hK _ ?_
      refine CW_no rfl ?_
      refine CW_ex ?_
      refine hX0 _ ?_
      refine CW_reg fun K_ hK => ?_
      simp [wk, vk, ek, ok, buildD, fillD, thr, f5]
      refine hK _ ?_
      refine CW_rt ?_
      refine ends_ret ?_
      simp [Tryz.results106, resD, resL, resD1, vk, wk, ok, buildD, fillD, ek, f5]
end Go.Proofs.YtobamidecbfgpaaGreatDoor
