/- Keys of rows, over the shadow. No condition. -/
import Derived.Test.YtobamidecbfgpaaGreatDoorEx
namespace Go.Proofs.YtobamidecbfgpaaGreatDoor
open Go Go.Sh Go.RowKit
set_option linter.unusedVariables false
set_option linter.unusedSimpArgs false
set_option maxRecDepth 10000
variable {W : World}
open Go.Lib in
/-- Decimal digits, so many. -/
def padD : Nat → Nat → Str
  | 0, _ => []
  | k + 1, n => padD k (n / 10) ++ [u8 (48 + n % 10)]
theorem padD_len : ∀ k n, (padD k n).length = k
  | 0, _ => rfl
  | k + 1, n => by rw [padD, List.length_append, padD_len k]; rfl
theorem dec_pad : ∀ k n, n < 10 ^ k → Lib.decDigits (10 ^ k + n) = 49 :: padD k n
  | 0, n, h => by
    have : n = 0 := by simp at h; exact h
    subst this
    rw [Lib.decDigits_one (by decide)]
    rfl
  | k + 1, n, h => by
    have hk : 0 < 10 ^ k := Nat.pow_pos (by decide)
    rw [Nat.pow_succ] at h ⊢
    rw [Lib.decDigits, dif_neg (by omega), show (10 ^ k * 10 + n) / 10 = 10 ^ k + n / 10 by omega, show (10 ^ k * 10 + n) % 10 = n % 10 by omega, dec_pad k (n / 10) (by omega), padD]
    rfl
theorem decFrom_snoc (d : Nat) (b : UInt8) (hb : Lib.digitVal b = some d) : ∀ (l : Str) (acc n : Nat), Lib.decFrom acc l = some n → Lib.decFrom acc (l ++ [b]) = some (n * 10 + d)
  | [], acc, n, h => by simp [Lib.decFrom] at h ⊢; simp [hb, h]
  | a :: l, acc, n, h => by
    rw [Lib.decFrom] at h
    rw [List.cons_append, Lib.decFrom]
    cases ha : Lib.digitVal a with
    | none => rw [ha] at h; cases h
    | some e => rw [ha] at h; exact decFrom_snoc d b hb l _ n h
theorem digit_u8 (n : Nat) (h : n < 10) : Lib.digitVal (u8 (48 + n)) = some n := by
  unfold Lib.digitVal
  rw [u8_nat (by omega), if_pos (by omega)]
  congr 1; omega
theorem decFrom_pad : ∀ k n, n < 10 ^ k → Lib.decFrom 0 (padD k n) = some n
  | 0, n, h => by simp at h; simp [padD, Lib.decFrom, h]
  | k + 1, n, h => by
    rw [Nat.pow_succ] at h
    rw [padD, decFrom_snoc (n % 10) _ (digit_u8 _ (by omega)) _ 0 (n / 10) (decFrom_pad k _ (by omega))]
    congr 1; omega
theorem padD_cons : ∀ k n, ∃ d t, d < 10 ∧ padD (k + 1) n = u8 (48 + d) :: t
  | 0, n => ⟨n % 10, [], by omega, rfl⟩
  | k + 1, n => by
    obtain ⟨d, t, hd, h⟩ := padD_cons k (n / 10)
    exact ⟨d, t ++ [u8 (48 + n % 10)], hd, by rw [padD, h]; rfl⟩
theorem atoi_pad (k n : Nat) (h : n < 10 ^ (k + 1)) : Lib.atoi (padD (k + 1) n) = some (n : Int) := by
  have h2 := decFrom_pad _ _ h
  obtain ⟨d, t, hd, e⟩ := padD_cons k n
  rw [e] at h2 ⊢
  have hn : (u8 (48 + d)).toNat = 48 + d := u8_nat (by omega)
  have h45 : (u8 (48 + d) == 45) = false := by
    rw [beq_eq_false_iff_ne]; intro q; rw [q] at hn; have : (45 : UInt8).toNat = 45 := rfl; omega
  have h43 : (u8 (48 + d) == 43) = false := by
    rw [beq_eq_false_iff_ne]; intro q; rw [q] at hn; have : (43 : UInt8).toNat = 43 := rfl; omega
  simp only [Lib.atoi, h45, h43, Lib.decNat, List.isEmpty_cons, h2]
  rfl
/-- The key of a row. -/
def keyB (v t id seq : Nat) : Str := u8 (48 + v) :: u8 t :: (padD 10 id ++ padD 10 seq)
theorem keyB_len (v t id seq : Nat) : (keyB v t id seq).length = 22 := by simp [keyB, padD_len]
theorem conv1 (t : Nat) (h : t < 256) : convD T 22 9 (.sl 1 [.i .u8 (t : Int)] .full) = some (.s [u8 t]) := by
  rw [show (D.i .u8 (t : Int)) = byteD (u8 t) by unfold byteD; rw [u8_nat h]]
  exact (cv22_9 ([u8 t].map byteD) .full).trans (by rw [toBs_bytes, Option.map_some, unB_bytes])
theorem itoaB (L : Laid W) (v : Nat) (h : v < 10) : Fc T W 47 [.i .i64 v] (.s [u8 (48 + v)]) := by
  have h2 := itoa_ok L (v : Int) (by omega) (by omega)
  rw [Lib.itoa_nonneg, Lib.decDigits_one h] at h2
  exact h2
theorem itoaT (L : Laid W) (n : Nat) (h : n ≤ 9999999999) : Fc T W 47 [.i .i64 (10000000000 + (n : Int))] (.s (49 :: padD 10 n)) := by
  have h2 := itoa_ok L ((10000000000 + n : Nat) : Int) (by omega) (by omega)
  rw [Lib.itoa_nonneg, show 10000000000 + n = 10 ^ 10 + n by rfl, dec_pad 10 n (by omega)] at h2
  simpa using h2
theorem ten_ok (L : Laid W) (n : Nat) (h : n ≤ 9999999999) : Fc T W 48 [.i .i64 n] (.s (padD 10 n)) := by
  have e1 : ¬ (9999999999 : Int) < (n : Int) := by omega
  have e2 : IntKind.i64.wrap (10000000000 + (n : Int)) = 10000000000 + (n : Int) := w64 (by omega) (by omega)
  have e3 : (n : Int) > 0 ∨ n = 0 := by omega
  have e4 : (if (0 : Int) < (n : Int) then (n : Int) else 0) = (n : Int) := by split <;> omega
  have e4' : (if 0 < n then (n : Int) else 0) = (n : Int) := by split <;> omega
  have e5 : (if (n : Int) ≤ 9999999999 then (n : Int) else 9999999999) = (n : Int) := by split <;> omega
  have e6 : (if (9999999999 : Int) < (n : Int) then (9999999999 : Int) else (n : Int)) = (n : Int) := by split <;> omega
  have e7 : sliceD T 9 (.s (49 :: padD 10 n)) (some (.i .i64 1)) none = some (.s (padD 10 n)) := by
    rw [sl9 _ _ _ 1 11 rfl (by simp [getI, padD_len]) (by simp [padD_len])]
    rw [List.take_of_length_le (by simp [padD_len])]
    rfl
  refine Fc_intro (thr := thr) hmix Tryz.func48 rfl (by kernel_rfl) (by simp [Tryz.ntmps48]) ?_
  refine CW_reg fun K_ hK => ?_
  simp [wk, vk, ek, thr, e1, e2, e4, e4', e5, e6, e7]
  refine hK _ ?_
  refine CW_reg fun K_ hK => ?_
  simp [wk, vk, ek, thr, e1, e2, e4, e4', e5, e6, e7]
  refine CallW_use (itoaT L n h) ?_
  simp [wk, vk, ek, thr, e1, e2, e4, e4', e5, e6, e7]
  refine hK _ ?_
  refine CW_rt ?_
  refine ends_ret ?_
  simp [Tryz.results48, resD, resL, resD1, vk, wk, ek, e1, e2, e4, e4', e5, e6, e7]
theorem key_ok (L : Laid W) (v t id seq : Nat) (hv : v < 10) (ht : t < 256) (hi : id ≤ 9999999999) (hs : seq ≤ 9999999999) : Fc T W 33 [.i .i64 v, .i .u8 t, .i .i64 id, .i .i64 seq] (.s (keyB v t id seq)) := by
  have e1 : (v : Int).tmod 10 = (v : Int) := by rw [show (v : Int).tmod 10 = ((v % 10 : Nat) : Int) from rfl]; congr 1; omega
  have e2 : ¬ (v : Int) < 0 := by omega
  have e3 := conv1 t ht
  refine Fc_intro (thr := thr) hmix Tryz.func33 rfl (by kernel_rfl) (by simp [Tryz.ntmps33]) ?_
  refine CW_reg fun K_ hK => ?_
  simp [wk, vk, ek, thr, e1, e2, e3, padD_len]
  refine hK _ ?_
  refine CW_reg fun K_ hK => ?_
  simp [wk, vk, ek, thr, e1, e2, e3, padD_len]
  refine hK _ ?_
  refine CW_seq1 ?_
  refine CW_reg fun K_ hK => ?_
  simp [wk, vk, ek, thr, e1, e2, e3, padD_len]
  refine hK _ ?_
  refine CW_no rfl ?_
  refine CW_sk ?_
  refine CW_reg fun K_ hK => ?_
  simp [wk, vk, ek, thr, e1, e2, e3, padD_len]
  refine CallW_use (itoaB L v hv) ?_
  simp [wk, vk, ek, thr, e1, e2, e3, padD_len]
  refine CallW_use (ten_ok L id hi) ?_
  simp [wk, vk, ek, thr, e1, e2, e3, padD_len]
  refine CallW_use (ten_ok L seq hs) ?_
  simp [wk, vk, ek, thr, e1, e2, e3, padD_len]
  refine hK _ ?_
  refine CW_rt ?_
  refine ends_ret ?_
  simp [Tryz.results33, resD, resL, resD1, vk, wk, ek, keyB, e1, e2, e3, padD_len]
theorem parts_ok (L : Laid W) (v t id seq : Nat) (hv : v < 10) (ht : 97 ≤ t ∧ t ≤ 122) (hi : id ≤ 9999999999) (hs : seq ≤ 9999999999) : Fc T W 42 [.s (keyB v t id seq)] (.tu [.i .i64 v, .i .u8 t, .i .i64 id, .i .i64 seq, .b true]) := by
  have hl := keyB_len v t id seq
  have h1 : ∀ h : 1 < (keyB v t id seq).length, (keyB v t id seq)[1].toNat = t := fun h => by simp [keyB]; exact u8_nat (by omega)
  have h2 : ¬ ((t : Int) < 97) := by omega
  have h3 : ¬ (122 < (t : Int)) := by omega
  have h4 : ¬ t < 97 := by omega
  have h5 : ¬ 122 < t := by omega
  have h6 : ¬ ((v : Int) < 0) := by omega
  have s1 : sliceD T 9 (.s (keyB v t id seq)) none (some (.i .i64 1)) = some (.s [u8 (48 + v)]) := by
    rw [sl9 _ _ _ 0 1 rfl rfl (by simp [hl])]; rfl
  have s2 : sliceD T 9 (.s (keyB v t id seq)) (some (.i .i64 2)) (some (.i .i64 12)) = some (.s (padD 10 id)) := by
    rw [sl9 _ _ _ 2 12 rfl rfl (by simp [hl])]
    simp only [keyB, List.take_succ_cons, List.drop_succ_cons, List.drop_zero]
    rw [List.take_append_of_le_length (by simp [padD_len]), List.take_of_length_le (by simp [padD_len])]
  have s3 : sliceD T 9 (.s (keyB v t id seq)) (some (.i .i64 12)) none = some (.s (padD 10 seq)) := by
    rw [sl9 _ _ _ 12 22 rfl (by simp [getI, hl]) (by simp [hl])]
    rw [List.take_of_length_le (by simp [hl])]
    simp only [keyB, List.drop_succ_cons]
    rw [List.drop_append_of_le_length (by simp [padD_len]), List.drop_of_length_le (by simp [padD_len]), List.nil_append]
  have a1 : Lib.atoi [u8 (48 + v)] = some (v : Int) := by have h := atoi_pad 0 v (by omega); rw [show padD (0 + 1) v = [u8 (48 + v % 10)] from rfl, Nat.mod_eq_of_lt hv] at h; exact h
  have a2 := atoi_pad 9 id (by omega)
  have a3 := atoi_pad 9 seq (by omega)
  refine Fc_intro (thr := thr) hmix Tryz.func42 rfl (by kernel_rfl) (by simp [Tryz.ntmps42]) ?_
  refine CW_reg fun K_ hK => ?_
  simp [wk, vk, ek, thr, hl, h1, h2, h3, h4, h5, h6, s1, s2, s3]
  refine hK _ ?_
  refine CW_seq1 ?_
  refine CW_reg fun K_ hK => ?_
  simp [wk, vk, ek, thr, hl, h1, h2, h3, h4, h5, h6, s1, s2, s3]
  refine hK _ ?_
  refine CW_no rfl ?_
  refine CW_sk ?_
  refine CW_reg fun K_ hK => ?_
  simp [wk, vk, ek, thr, hl, h1, h2, h3, h4, h5, h6, s1, s2, s3]
  refine CallW_use (atoi_ok _ _ (by simp) a1) ?_
  simp [wk, vk, ek, thr, hl, h1, h2, h3, h4, h5, h6, s1, s2, s3]
  refine hK _ ?_
  refine CW_reg fun K_ hK => ?_
  simp [wk, vk, ek, thr, hl, h1, h2, h3, h4, h5, h6, s1, s2, s3]
  refine CallW_use (atoi_ok _ _ (by simp [padD_len]) a2) ?_
  simp [wk, vk, ek, thr, hl, h1, h2, h3, h4, h5, h6, s1, s2, s3]
  refine hK _ ?_
  refine CW_reg fun K_ hK => ?_
  simp [wk, vk, ek, thr, hl, h1, h2, h3, h4, h5, h6, s1, s2, s3]
  refine CallW_use (atoi_ok _ _ (by simp [padD_len]) a3) ?_
  simp [wk, vk, ek, thr, hl, h1, h2, h3, h4, h5, h6, s1, s2, s3]
  refine hK _ ?_
  refine CW_seq1 ?_
  refine CW_reg fun K_ hK => ?_
  simp [wk, vk, ek, thr, hl, h1, h2, h3, h4, h5, h6, s1, s2, s3]
  refine CallW_use (key_ok L v t id seq hv (by omega) hi hs) ?_
  simp [wk, vk, ek, thr, hl, h1, h2, h3, h4, h5, h6, s1, s2, s3]
  refine hK _ ?_
  refine CW_no rfl ?_
  refine CW_sk ?_
  refine CW_reg fun K_ hK => ?_
  simp [wk, vk, ek, thr, hl, h1, h2, h3, h4, h5, h6, s1, s2, s3]
  refine hK _ ?_
  refine CW_rt ?_
  refine ends_ret ?_
  simp [Tryz.results42, resD, resL, resD1, vk, wk, ek, hl, h1, h2, h3, h4, h5, h6, s1, s2, s3]
end Go.Proofs.YtobamidecbfgpaaGreatDoor
