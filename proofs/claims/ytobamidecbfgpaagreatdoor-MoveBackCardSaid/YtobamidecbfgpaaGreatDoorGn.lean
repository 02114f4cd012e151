/- Numbers and texts read back, over the shadow. No condition. -/
import Derived.Test.YtobamidecbfgpaaGreatDoorJa
namespace Go.Proofs.YtobamidecbfgpaaGreatDoor
open Go Go.Sh Go.RowKit
set_option linter.unusedVariables false
set_option linter.unusedSimpArgs false
set_option maxRecDepth 10000
variable {W : World}
theorem cvb (b : UInt8) : convD T 5 3 (byteD b) = some (.i .i64 b.toNat) := by
  have : b.toNat < 256 := b.toNat_lt
  rw [byteD, cv5_3, w64 (by omega) (by omega)]
theorem getNum_step {m : Nat} : ∃ (q : Nat) (t : Str), numB m = u8 q :: t ∧ q < 256 ∧ ((127 < m ∧ q = 128 + m % 128 ∧ t = numB (m / 128)) ∨ (¬ 127 < m ∧ q = m ∧ t = [])) := by
  by_cases hb : 127 < m
  · exact ⟨_, _, numB_big hb, by omega, .inl ⟨hb, rfl, rfl⟩⟩
  · exact ⟨_, _, numB_small hb, by omega, .inr ⟨hb, rfl, rfl⟩⟩
theorem getNum_ok (pre post : Str) (n : Nat) (hn : n ≤ 9007199254740992) (B : Str) (hB : B = pre ++ (numB n ++ post)) (hl : B.length ≤ 100000000) : Fc T W 65 [dBytes B, .i .i64 pre.length] (.tu [.i .i64 n, .i .i64 (pre.length + (numB n).length : Nat), .i .i64 0]) := by
  have h8 := numB_len8 hn
  have hBl : B.length = pre.length + ((numB n).length + post.length) := by rw [hB]; simp
  have g1 : ¬ ((pre.length : Int) < 0) := by omega
  have g2 : ¬ ((B.length : Int) < (pre.length : Int)) := by omega
  have g2' : ¬ (B.length < pre.length) := by omega
  refine Fc_intro (thr := thr) hmix Tryz.func65 rfl (by kernel_rfl) (by simp [Tryz.ntmps65]) ?_
  refine CW_reg fun K_ hK => ?_
  simp [wk, vk, ek, thr, g1, g2, g2', dBytes]
  refine hK _ ?_
  refine CW_seq1 ?_
  refine CW_reg fun K_ hK => ?_
  simp [wk, vk, ek, thr, g1, g2, g2', dBytes]
  refine hK _ ?_
  refine CW_no rfl ?_
  refine CW_sk ?_
  refine CW_reg fun K_ hK => ?_
  simp [wk, vk, ek, thr, g1, g2, g2', dBytes]
  refine hK _ ?_
  refine CW_reg fun K_ hK => ?_
  simp [wk, vk, ek, thr, g1, g2, g2', dBytes]
  refine hK _ ?_
  refine CW_seq1 ?_
  refine CW_reg fun K_ hK => ?_
  simp [wk, vk, ek, thr, g1, g2, g2', dBytes]
  refine hK _ ?_
  refine CW_for (fun j τ => ∃ i m a u : Nat, ∃ l : Str, j = 8 - i ∧ numB n = l ++ numB m ∧ l.length = i ∧ a + u * m = n ∧ (0 < i → 0 < m) ∧ τ.fr 0 = dBytes B ∧ τ.fr 1 = .i .i64 pre.length ∧ τ.fr 7 = .i .i64 a ∧ τ.fr 8 = .i .i64 u ∧ τ.fr 9 = .i .i64 i) (8) ?_ ?_
  · exact ⟨0, n, 0, 1, [], rfl, rfl, rfl, by omega, by omega, by simp [upd, dBytes], by simp [upd], by simp [upd], by simp [upd], by simp [upd]⟩
  · rintro j ⟨fr, bx, tp, c⟩ ⟨i, m, a, u, l, rfl, hnl, hli, hsum, hpos, f0, f1, f7, f8, f9⟩ K0 hN0 hX0 hR0 hJ0
    simp only at f0 f1 f7 f8 f9
    obtain ⟨q, t, hm, hq, hcase⟩ := getNum_step (m := m)
    have hil : i < (numB n).length := by rw [hnl, hm]; simp; omega
    have hi8 : (i : Int) < 8 := by omega
    obtain ⟨k, hk⟩ : ∃ k, k = pre.length + i := ⟨_, rfl⟩
    have hkl : k < B.length := by omega
    have hx : ∀ h : k < B.length, B[k] = u8 q := by
      intro h
      have : B = (pre ++ l) ++ (u8 q :: (t ++ post)) := by rw [hB, hnl, hm]; simp
      simp [this, hk, hli, List.getElem_append]
    have e1 : IntKind.i64.wrap ((pre.length : Int) + (i : Int)) = (k : Int) := by rw [w64 (by omega) (by omega)]; omega
    have e0 : ((k : Int) == (B.length : Int)) = false := by simp; omega
    have e0' : ¬ k = B.length := by omega
    have e2 := u8_nat hq
    have e3 : (q : Int).tmod 128 = ((m % 128 : Nat) : Int) := by rw [show (q : Int).tmod 128 = ((q % 128 : Nat) : Int) from rfl]; congr 1; omega
    obtain ⟨r, hr⟩ : ∃ r, r = m % 128 := ⟨_, rfl⟩
    rw [← hr] at e3
    have hru : r * u ≤ u * m := by rw [Nat.mul_comm]; exact Nat.mul_le_mul_left _ (by omega)
    obtain ⟨p, hp⟩ : ∃ p, p = r * u := ⟨_, rfl⟩
    have e4 : IntKind.i64.wrap ((u : Int) * (r : Int)) = (p : Int) := by rw [show (u : Int) * (r : Int) = (p : Int) by rw [hp, Nat.mul_comm]; simp, w64 (by omega) (by omega)]
    have e4' : IntKind.i64.wrap ((r : Int) * (u : Int)) = (p : Int) := by rw [Int.mul_comm]; exact e4
    have e5 : IntKind.i64.wrap ((a : Int) + (p : Int)) = ((a + p : Nat) : Int) := by rw [w64 (by omega) (by omega)]; omega
    obtain ⟨a', ha'⟩ : ∃ a', a' = a + p := ⟨_, rfl⟩
    rw [← ha'] at e5
    have hui : u ≤ n ∨ m = 0 := by
      rcases Nat.eq_zero_or_pos m with h | h
      · exact .inr h
      · left; have := Nat.le_mul_of_pos_right u h; omega
    refine CW_seq1 ?_
    refine CW_reg fun K_ hK => ?_
    simp [wk, vk, ek, thr, f0, f1, f7, f8, f9, dBytes, hi8, e1, e0, e0', hkl, hx, cvb, e2, e3, e4, e4', e5]
    refine hK _ ?_
    refine CW_yes rfl ?_
    refine CW_sk ?_
    refine CW_seq1 ?_
    refine CW_blk fun K1 hn1 hx1 hr1 hj1 => ?_
    refine CW_seq1 ?_
    refine CW_reg fun K_ hK => ?_
    simp [wk, vk, ek, thr, f0, f1, f7, f8, f9, dBytes, hi8, e1, e0, e0', hkl, hx, cvb, e2, e3, e4, e4', e5]
    refine hK _ ?_
    refine CW_no rfl ?_
    refine CW_sk ?_
    refine CW_reg fun K_ hK => ?_
    simp [wk, vk, ek, thr, f0, f1, f7, f8, f9, dBytes, hi8, e1, e0, e0', hkl, hx, cvb, e2, e3, e4, e4', e5]
    refine hK _ ?_
    refine CW_reg fun K_ hK => ?_
    simp [wk, vk, ek, thr, f0, f1, f7, f8, f9, dBytes, hi8, e1, e0, e0', hkl, hx, cvb, e2, e3, e4, e4', e5]
    refine hK _ ?_
    refine CW_reg fun K_ hK => ?_
    simp [wk, vk, ek, thr, f0, f1, f7, f8, f9, dBytes, hi8, e1, e0, e0', hkl, hx, cvb, e2, e3, e4, e4', e5]
    refine hK _ ?_
    refine CW_reg fun K_ hK => ?_
    simp [wk, vk, ek, thr, f0, f1, f7, f8, f9, dBytes, hi8, e1, e0, e0', hkl, hx, cvb, e2, e3, e4, e4', e5]
    refine hK _ ?_
    refine CW_cond rfl (fun hct45 => ?_) (fun hct45 => ?_)
    · have hq1 : q < 128 := by have := of_decide_eq_true hct45; omega
      obtain ⟨hmq, ht⟩ : m = q ∧ t = [] := by rcases hcase with ⟨h1, h2, h3⟩ | ⟨h1, h2, h3⟩; omega; exact ⟨by omega, h3⟩
      have hrq : r = q := by omega
      have hpa : a + p = n := by rw [← hsum, hp, hrq, hmq, Nat.mul_comm]
      have hm9 : ¬ (9007199254740992 : Int) < (a' : Int) := by omega
      have hm9n : ¬ (9007199254740992 : Int) < (n : Int) := by omega
      have e6 : IntKind.i64.wrap ((k : Int) + 1) = ((k + 1 : Nat) : Int) := by rw [w64 (by omega) (by omega)]; omega
      have hL : (numB n).length = i + 1 := by rw [hnl, hm, ht]; simp [hli]
      have e9 : (a' : Int) = (n : Int) := by omega
      have e10 : (k : Int) + 1 = (pre.length : Int) + ((numB n).length : Int) := by omega
      have e11 : IntKind.i64.wrap ((pre.length : Int) + ((numB n).length : Int)) = (pre.length : Int) + ((numB n).length : Int) := w64 (by omega) (by omega)
      refine CW_seq1 ?_
      by_cases hq0 : q = 0
      · have hi0 : ¬ (0 : Int) < (i : Int) := by omega
        have hi0' : ¬ 0 < i := by omega
        refine CW_reg fun K_ hK => ?_
        simp [wk, vk, ek, thr, f0, f1, f7, f8, f9, dBytes, hi8, e1, e0, e0', hkl, hx, cvb, e2, e3, e4, e4', e5, hm9, hm9n, e6, e9, e10, e11, hq0, hi0, hi0']
        refine hK _ ?_
        refine CW_no rfl ?_
        refine CW_sk ?_
        refine CW_reg fun K_ hK => ?_
        simp [wk, vk, ek, thr, f0, f1, f7, f8, f9, dBytes, hi8, e1, e0, e0', hkl, hx, cvb, e2, e3, e4, e4', e5, hm9, hm9n, e6, e9, e10, e11, hq0, hi0, hi0']
        refine hK _ ?_
        refine CW_rt ?_
        refine hr1 _ ?_
        refine hR0 _ ?_
        refine ends_ret ?_
        simp [Tryz.results65, resD, resL, resD1, vk, wk, ek, f0, f1, f7, f8, f9, dBytes, hi8, e1, e0, e0', hkl, hx, cvb, e2, e3, e4, e4', e5, hm9, hm9n, e6, e9, e10, e11, hq0, hi0, hi0']
      · have hq0i : ((q : Int) == 0) = false := by simp; omega
        refine CW_reg fun K_ hK => ?_
        simp [wk, vk, ek, thr, f0, f1, f7, f8, f9, dBytes, hi8, e1, e0, e0', hkl, hx, cvb, e2, e3, e4, e4', e5, hm9, hm9n, e6, e9, e10, e11, hq0i, hq0]
        refine hK _ ?_
        refine CW_no rfl ?_
        refine CW_sk ?_
        refine CW_reg fun K_ hK => ?_
        simp [wk, vk, ek, thr, f0, f1, f7, f8, f9, dBytes, hi8, e1, e0, e0', hkl, hx, cvb, e2, e3, e4, e4', e5, hm9, hm9n, e6, e9, e10, e11, hq0i, hq0]
        refine hK _ ?_
        refine CW_rt ?_
        refine hr1 _ ?_
        refine hR0 _ ?_
        refine ends_ret ?_
        simp [Tryz.results65, resD, resL, resD1, vk, wk, ek, f0, f1, f7, f8, f9, dBytes, hi8, e1, e0, e0', hkl, hx, cvb, e2, e3, e4, e4', e5, hm9, hm9n, e6, e9, e10, e11, hq0i, hq0]
    · have hq1 : ¬ q < 128 := by have := of_decide_eq_false hct45; omega
      obtain ⟨hm1, hmq, ht⟩ : 127 < m ∧ q = 128 + m % 128 ∧ t = numB (m / 128) := by rcases hcase with h | ⟨h1, h2, h3⟩; exact h; omega
      have hum : u * 128 ≤ u * m := Nat.mul_le_mul_left _ (by omega)
      have e7 : IntKind.i64.wrap ((u : Int) * 128) = ((u * 128 : Nat) : Int) := by rw [w64 (by omega) (by omega)]; omega
      have e8 : IntKind.i64.wrap ((i : Int) + 1) = ((i + 1 : Nat) : Int) := by rw [w64 (by omega) (by omega)]; omega
      refine CW_sk ?_
      refine hn1 _ ?_
      refine CW_reg1 fun K_ hK => ?_
      simp [wk, vk, ek, thr, f0, f1, f7, f8, f9, dBytes, hi8, e1, e0, e0', hkl, hx, cvb, e2, e3, e4, e4', e5, e7, e8]
      refine hK _ ?_
      refine hN0 (8 - (i + 1)) _ (by omega) ⟨i + 1, m / 128, a', u * 128, l ++ [u8 q], rfl, by rw [hnl, hm, ht]; simp, by simp [hli], ?_, by omega, by simp [upd, f0], by simp [upd, f1], by simp [upd], by simp [upd], by simp [upd]⟩
      have hdm := Nat.div_add_mod m 128
      rw [ha', hp, hr, ← hsum]
      conv => rhs; rw [← hdm, Nat.mul_add]
      rw [Nat.mul_assoc, Nat.mul_comm (m % 128) u]
      omega
theorem getText_ok (pre post s : Str) (most : Nat) (hs : s.length ≤ most) (hm : most ≤ 1000) (B : Str) (hB : B = pre ++ (textB s ++ post)) (hl : B.length ≤ 100000000) : Fc T W 125 [dBytes B, .i .i64 pre.length, .i .i64 most] (.tu [.s s, .i .i64 (pre.length + (textB s).length : Nat), .i .i64 0]) := by
  have h8 := numB_len8 (n := s.length) (by omega)
  have hBl : B.length = pre.length + ((numB s.length).length + (s.length + post.length)) := by rw [hB]; simp [textB]
  have hB2 : B = pre ++ (numB s.length ++ (s ++ post)) := by rw [hB]; simp [textB]
  obtain ⟨k, hk⟩ : ∃ k, k = pre.length + (numB s.length).length := ⟨_, rfl⟩
  have g1 : ¬ ((most : Int) < (s.length : Int)) := by omega
  have g1' : ¬ (most < s.length) := by omega
  have e1 : IntKind.i64.wrap ((B.length : Int) - (k : Int)) = ((B.length - k : Nat) : Int) := by rw [w64 (by omega) (by omega)]; omega
  have e1' : ¬ (B.length : Int) - (k : Int) < (s.length : Int) := by omega
  obtain ⟨z, hz⟩ : ∃ z, z = B.length - k := ⟨_, rfl⟩
  rw [← hz] at e1
  have g2 : ¬ ((z : Int) < (s.length : Int)) := by omega
  have g2' : ¬ (z < s.length) := by omega
  have e2 : IntKind.i64.wrap ((k : Int) + (s.length : Int)) = ((k + s.length : Nat) : Int) := by rw [w64 (by omega) (by omega)]; omega
  obtain ⟨y, hy⟩ : ∃ y, y = k + s.length := ⟨_, rfl⟩
  rw [← hy] at e2
  have hp1 := numB_pos s.length
  have hne : B.map byteD ≠ [] := by intro e; have h9 := congrArg List.length e; simp at h9; rw [h9] at hBl; simp at hBl; omega
  have hsl : sliceD T 22 (DO 1 (List.map byteD B) .shut) (some (.i .i64 (k : Int))) (some (.i .i64 (y : Int))) = some (.sl 1 (s.map byteD) .shut) := by
    rw [DO_ne hne, sl22 _ _ _ _ k y (by simp [getI]) (by simp [getI]) (by simp; omega)]
    congr 2
    rw [← List.map_take, ← List.map_drop, hB2, ← List.append_assoc, ← List.append_assoc, List.take_append_of_le_length (by simp; omega), List.take_of_length_le (by simp; omega), List.drop_append_of_le_length (by simp; omega), List.drop_of_length_le (by simp; omega), List.nil_append]
  have hcv : convD T 22 9 (.sl 1 (s.map byteD) .shut) = some (.s s) := by rw [cv22_9, toBs_bytes, Option.map_some, unB_bytes]
  have htl : (textB s).length = (numB s.length).length + s.length := by simp [textB]
  have e3 : (y : Int) = (pre.length : Int) + ((textB s).length : Int) := by omega
  refine Fc_intro (thr := thr) hmix Tryz.func125 rfl (by kernel_rfl) (by simp [Tryz.ntmps125]) ?_
  refine CW_reg fun K_ hK => ?_
  simp [wk, vk, ek, thr, g1, g1', g2, g2', e1, e2, e1', hsl, hcv, dBytes]
  refine hK _ ?_
  refine CW_reg fun K_ hK => ?_
  simp [wk, vk, ek, thr, g1, g1', g2, g2', e1, e2, e1', hsl, hcv, dBytes]
  refine CallW_use (by have h := getNum_ok (W := W) pre (s ++ post) s.length (by omega) B hB2 hl; rw [← hk] at h; exact h) ?_
  simp [wk, vk, ek, thr, g1, g1', g2, g2', e1, e2, e1', hsl, hcv, dBytes]
  refine hK _ ?_
  refine CW_seq1 ?_
  refine CW_reg fun K_ hK => ?_
  simp [wk, vk, ek, thr, g1, g1', g2, g2', e1, e2, e1', hsl, hcv, dBytes]
  refine hK _ ?_
  refine CW_no rfl ?_
  refine CW_sk ?_
  refine CW_seq1 ?_
  refine CW_reg fun K_ hK => ?_
  simp [wk, vk, ek, thr, g1, g1', g2, g2', e1, e2, e1', hsl, hcv, dBytes, dBytes]
  refine hK _ ?_
  refine CW_no rfl ?_
  refine CW_sk ?_
  refine CW_seq1 ?_
  refine CW_reg fun K_ hK => ?_
  simp [wk, vk, ek, thr, g1, g1', g2, g2', e1, e2, e1', hsl, hcv, dBytes]
  refine hK _ ?_
  refine CW_no rfl ?_
  refine CW_sk ?_
  refine CW_reg fun K_ hK => ?_
  simp [wk, vk, ek, thr, g1, g1', g2, g2', e1, e2, e1', hsl, hcv, dBytes, dBytes]
  refine hK _ ?_
  refine CW_rt ?_
  refine ends_ret ?_
  simp [Tryz.results125, resD, resL, resD1, vk, wk, ek, e3, g1, g1', g2, g2', e1, e2, e1', hsl, hcv, dBytes]
theorem rNum111 (pre post : Str) (n : Nat) (hn : n ≤ 9007199254740992) (B : Str) (hB : B = pre ++ (numB n ++ post)) (hl : B.length ≤ 100000000) (k : Nat) (hk : k = pre.length) : Fc T W 111 [dR B k] (.tu [dR B (k + (numB n).length), .i .i64 n]) := by
  subst hk
  refine Fc_intro (thr := thr) hmix Tryz.func111 rfl (by kernel_rfl) (by simp [Tryz.ntmps111]) ?_
  refine CW_reg fun K_ hK => ?_
  simp [wk, vk, ek, thr, dR]
  refine hK _ ?_
  refine CW_reg fun K_ hK => ?_
  simp [wk, vk, ek, thr, dR]
  refine CallW_use (getNum_ok pre post n hn B hB hl) ?_
  simp [wk, vk, ek, thr, dR]
  refine hK _ ?_
  refine CW_seq1 ?_
  refine CW_reg fun K_ hK => ?_
  simp [wk, vk, ek, thr, dR]
  refine hK _ ?_
  refine CW_no rfl ?_
  refine CW_sk ?_
  refine CW_reg fun K_ hK => ?_
  simp [wk, vk, ek, thr, dR]
  refine hK _ ?_
  refine CW_reg fun K_ hK => ?_
  simp [wk, vk, ek, thr, dR]
  refine hK _ ?_
  refine CW_rt ?_
  refine ends_ret ?_
  simp [Tryz.results111, resD, resL, resD1, vk, wk, ek, dR, dR]
theorem rNum126 (pre post : Str) (n : Nat) (hn : n ≤ 9007199254740992) (B : Str) (hB : B = pre ++ (numB n ++ post)) (hl : B.length ≤ 100000000) (k : Nat) (hk : k = pre.length) : Fc T W 126 [dR B k] (.tu [dR B (k + (numB n).length), .i .i64 n]) := by
  subst hk
  refine Fc_intro (thr := thr) hmix Tryz.func126 rfl (by kernel_rfl) (by simp [Tryz.ntmps126]) ?_
  refine CW_reg fun K_ hK => ?_
  simp [wk, vk, ek, thr, dR]
  refine hK _ ?_
  refine CW_reg fun K_ hK => ?_
  simp [wk, vk, ek, thr, dR]
  refine CallW_use (getNum_ok pre post n hn B hB hl) ?_
  simp [wk, vk, ek, thr, dR]
  refine hK _ ?_
  refine CW_seq1 ?_
  refine CW_reg fun K_ hK => ?_
  simp [wk, vk, ek, thr, dR]
  refine hK _ ?_
  refine CW_no rfl ?_
  refine CW_sk ?_
  refine CW_reg fun K_ hK => ?_
  simp [wk, vk, ek, thr, dR]
  refine hK _ ?_
  refine CW_reg fun K_ hK => ?_
  simp [wk, vk, ek, thr, dR]
  refine hK _ ?_
  refine CW_rt ?_
  refine ends_ret ?_
  simp [Tryz.results126, resD, resL, resD1, vk, wk, ek, dR, dR]
theorem rNum128 (pre post : Str) (n : Nat) (hn : n ≤ 9007199254740992) (B : Str) (hB : B = pre ++ (numB n ++ post)) (hl : B.length ≤ 100000000) (k : Nat) (hk : k = pre.length) : Fc T W 128 [dR B k] (.tu [dR B (k + (numB n).length), .i .i64 n]) := by
  subst hk
  refine Fc_intro (thr := thr) hmix Tryz.func128 rfl (by kernel_rfl) (by simp [Tryz.ntmps128]) ?_
  refine CW_reg fun K_ hK => ?_
  simp [wk, vk, ek, thr, dR]
  refine hK _ ?_
  refine CW_reg fun K_ hK => ?_
  simp [wk, vk, ek, thr, dR]
  refine CallW_use (getNum_ok pre post n hn B hB hl) ?_
  simp [wk, vk, ek, thr, dR]
  refine hK _ ?_
  refine CW_seq1 ?_
  refine CW_reg fun K_ hK => ?_
  simp [wk, vk, ek, thr, dR]
  refine hK _ ?_
  refine CW_no rfl ?_
  refine CW_sk ?_
  refine CW_reg fun K_ hK => ?_
  simp [wk, vk, ek, thr, dR]
  refine hK _ ?_
  refine CW_reg fun K_ hK => ?_
  simp [wk, vk, ek, thr, dR]
  refine hK _ ?_
  refine CW_rt ?_
  refine ends_ret ?_
  simp [Tryz.results128, resD, resL, resD1, vk, wk, ek, dR, dR]
theorem rText102 (pre post s : Str) (most : Nat) (hs : s.length ≤ most) (hm : most ≤ 1000) (B : Str) (hB : B = pre ++ (textB s ++ post)) (hl : B.length ≤ 100000000) (k : Nat) (hk : k = pre.length) : Fc T W 102 [dR B k, .i .i64 most] (.tu [dR B (k + (textB s).length), .s s]) := by
  subst hk
  refine Fc_intro (thr := thr) hmix Tryz.func102 rfl (by kernel_rfl) (by simp [Tryz.ntmps102]) ?_
  refine CW_reg fun K_ hK => ?_
  simp [wk, vk, ek, thr, dR]
  refine hK _ ?_
  refine CW_reg fun K_ hK => ?_
  simp [wk, vk, ek, thr, dR]
  refine CallW_use (getText_ok pre post s most hs hm B hB hl) ?_
  simp [wk, vk, ek, thr, dR]
  refine hK _ ?_
  refine CW_seq1 ?_
  refine CW_reg fun K_ hK => ?_
  simp [wk, vk, ek, thr, dR]
  refine hK _ ?_
  refine CW_no rfl ?_
  refine CW_sk ?_
  refine CW_reg fun K_ hK => ?_
  simp [wk, vk, ek, thr, dR]
  refine hK _ ?_
  refine CW_reg fun K_ hK => ?_
  simp [wk, vk, ek, thr, dR]
  refine hK _ ?_
  refine CW_rt ?_
  refine ends_ret ?_
  simp [Tryz.results102, resD, resL, resD1, vk, wk, ek, dR, dR]
theorem rText108 (pre post s : Str) (most : Nat) (hs : s.length ≤ most) (hm : most ≤ 1000) (B : Str) (hB : B = pre ++ (textB s ++ post)) (hl : B.length ≤ 100000000) (k : Nat) (hk : k = pre.length) : Fc T W 108 [dR B k, .i .i64 most] (.tu [dR B (k + (textB s).length), .s s]) := by
  subst hk
  refine Fc_intro (thr := thr) hmix Tryz.func108 rfl (by kernel_rfl) (by simp [Tryz.ntmps108]) ?_
  refine CW_reg fun K_ hK => ?_
  simp [wk, vk, ek, thr, dR]
  refine hK _ ?_
  refine CW_reg fun K_ hK => ?_
  simp [wk, vk, ek, thr, dR]
  refine CallW_use (getText_ok pre post s most hs hm B hB hl) ?_
  simp [wk, vk, ek, thr, dR]
  refine hK _ ?_
  refine CW_seq1 ?_
  refine CW_reg fun K_ hK => ?_
  simp [wk, vk, ek, thr, dR]
  refine hK _ ?_
  refine CW_no rfl ?_
  refine CW_sk ?_
  refine CW_reg fun K_ hK => ?_
  simp [wk, vk, ek, thr, dR]
  refine hK _ ?_
  refine CW_reg fun K_ hK => ?_
  simp [wk, vk, ek, thr, dR]
  refine hK _ ?_
  refine CW_rt ?_
  refine ends_ret ?_
  simp [Tryz.results108, resD, resL, resD1, vk, wk, ek, dR, dR]
theorem rText112 (pre post s : Str) (most : Nat) (hs : s.length ≤ most) (hm : most ≤ 1000) (B : Str) (hB : B = pre ++ (textB s ++ post)) (hl : B.length ≤ 100000000) (k : Nat) (hk : k = pre.length) : Fc T W 112 [dR B k, .i .i64 most] (.tu [dR B (k + (textB s).length), .s s]) := by
  subst hk
  refine Fc_intro (thr := thr) hmix Tryz.func112 rfl (by kernel_rfl) (by simp [Tryz.ntmps112]) ?_
  refine CW_reg fun K_ hK => ?_
  simp [wk, vk, ek, thr, dR]
  refine hK _ ?_
  refine CW_reg fun K_ hK => ?_
  simp [wk, vk, ek, thr, dR]
  refine CallW_use (getText_ok pre post s most hs hm B hB hl) ?_
  simp [wk, vk, ek, thr, dR]
  refine hK _ ?_
  refine CW_seq1 ?_
  refine CW_reg fun K_ hK => ?_
  simp [wk, vk, ek, thr, dR]
  refine hK _ ?_
  refine CW_no rfl ?_
  refine CW_sk ?_
  refine CW_reg fun K_ hK => ?_
  simp [wk, vk, ek, thr, dR]
  refine hK _ ?_
  refine CW_reg fun K_ hK => ?_
  simp [wk, vk, ek, thr, dR]
  refine hK _ ?_
  refine CW_rt ?_
  refine ends_ret ?_
  simp [Tryz.results112, resD, resL, resD1, vk, wk, ek, dR, dR]
end Go.Proofs.YtobamidecbfgpaaGreatDoor
