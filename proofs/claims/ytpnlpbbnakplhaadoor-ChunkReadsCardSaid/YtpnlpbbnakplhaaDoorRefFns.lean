/- What the document's More, Sum, Seal and Right (layer 2) come to: the same words as the program's. Rows of bytes shorter than 2^40. -/
import Derived.Test.YtpnlpbbnakplhaaDoorRRightx1
import Derived.Test.YtpnlpbbnakplhaaDoorCrcFns
namespace Go.Proofs.YtpnlpbbnakplhaaDoor
open Go.RowKit Go.Proofs.YtpnlpbbnakplhaaDoorW.PrintWords Go.Proofs.YtpnlpbbnakplhaaDoorW.PrintMore Go.Proofs.YtpnlpbbnakplhaaDoor.RRight
set_option linter.unusedVariables false

theorem toI_odd (x : W32) : toI x % 2 = if x.getLsbD 0 then 1 else 0 := by
  have h := and_one x
  have h2 : (x &&& 1#32).toNat = x.toNat % 2 := by
    rw [BitVec.toNat_and, show (1#32).toNat = 2 ^ 1 - 1 by decide, Nat.and_two_pow_sub_one_eq_mod]
  rw [h] at h2
  unfold toI
  cases hb : x.getLsbD 0 <;> rw [hb] at h2 <;> simp at h2 ⊢ <;> omega
theorem half_eq (x : W32) : (Int.tdiv (toI x) 2) % (4294967296 : Int) = toI (x >>> 1) := by
  have hr := toI_range x
  rw [Int.tdiv_eq_ediv_of_nonneg hr.1, ← ofI_half x 1 2 (by decide), toI_ofI _ (by omega) (by omega)]
  omega
theorem ref_step (x : W32) : (if Int.tmod (toI x) 2 = 1 then Go.bits .xor .u32 ((Int.tdiv (toI x) 2) % 4294967296) 3988292384 else (Int.tdiv (toI x) 2) % 4294967296) = toI (stepB x) := by
  have hr := toI_range x
  rw [Int.tmod_eq_emod_of_nonneg hr.1, toI_odd, half_eq]
  unfold stepB
  cases x.getLsbD 0
  · rw [if_neg (by decide), if_neg (by decide)]
    congr 1
    exact (BitVec.xor_zero).symm
  · rw [if_pos (by decide), if_pos rfl, bits_xor32, ofI_toI]
    rfl
theorem ref_l1 (l : List Int) (i : Int) (e : Nat) : ∀ (k j : Nat) (x : W32), j + e = 8 → roadsteadref02_More.l1 (k + e + 1) (toI x) l i (j : Int) = roadsteadref02_More.l0 k (toI (stepsB e x)) l (wrap64 (i + 1)) := by
  induction e with
  | zero =>
    intro k j x h
    simp only [roadsteadref02_More.l1]
    rw [if_neg (by omega)]
    rfl
  | succ e ih =>
    intro k j x h
    rw [show k + (e + 1) + 1 = (k + e + 1) + 1 by omega]
    simp only [roadsteadref02_More.l1]
    rw [if_pos (by omega), wrap_small _ (by omega) (by omega), stepsB_front, show ((j : Int) + 1) = ((j + 1 : Nat) : Int) by omega, ← ih k (j + 1) (stepB x) (by omega), ← ref_step x]
    split <;> rfl
theorem ref_l0 (l : List Int) (hl : Bytes l) (hn : l.length ≤ 1099511627776) (d : Nat) : ∀ (k i : Nat) (x : W32), i + d = l.length → 10 * d < k → roadsteadref02_More.l0 k (toI x) l (i : Int) = some (toI (ones ^^^ runB (l.drop i) x)) := by
  induction d with
  | zero =>
    intro k i x hi hk
    obtain ⟨k, rfl⟩ : ∃ m, k = m + 1 := ⟨k - 1, by omega⟩
    simp only [roadsteadref02_More.l0]
    rw [if_neg (by omega), List.drop_of_length_le (by omega), bits_xor32, ofI_toI, BitVec.xor_comm]
    rfl
  | succ d ih =>
    intro k i x hi hk
    obtain ⟨k, rfl⟩ : ∃ m, k = m + 8 + 1 + 1 := ⟨k - 10, by omega⟩
    have hlt : i < l.length := by omega
    have hb := hl _ (List.getElem_mem hlt)
    have hrd : rd l i = l[i] := by simp [rd, hlt]
    have hw : bits .xor .u32 (toI x) (rd l i % 4294967296) = toI (x ^^^ ofI l[i]) := by
      rw [hrd, Int.emod_eq_of_lt hb.1 (by have := hb.2; omega), bits_xor32, ofI_toI]
    simp only [roadsteadref02_More.l0]
    rw [if_pos (by omega), if_pos (by omega), hw]
    have h1 := ref_l1 l i 8 k 0 (x ^^^ ofI l[i]) (by omega)
    rw [show ((0 : Nat) : Int) = 0 from rfl] at h1
    rw [h1, wrap_small _ (by omega) (by omega), show ((i : Int) + 1) = ((i + 1 : Nat) : Int) by omega, ih k (i + 1) _ (by omega) (by omega), List.drop_eq_getElem_cons hlt]
    rfl
theorem ref_more (l : List Int) (hl : Bytes l) (hn : l.length ≤ 1099511627776) (x : W32) (k : Nat) (hk : 10 * l.length < k) : roadsteadref02_More.f k (toI x) l = some (toI (moreB x l)) := by
  unfold roadsteadref02_More.f
  rw [bits_xor32, ofI_toI, show ofI 4294967295 = ones by decide]
  have h := ref_l0 l hl hn l.length k 0 (x ^^^ ones) (by omega) hk
  rw [show ((0 : Nat) : Int) = 0 from rfl] at h
  rw [h, BitVec.xor_comm x ones]
  rfl
theorem ref_sum (l : List Int) (hl : Bytes l) (hn : l.length ≤ 1099511627776) (k : Nat) (hk : 10 * l.length < k) : roadsteadref02_Sum.f k l = some (toI (sumB l)) := by
  unfold roadsteadref02_Sum.f
  have h := ref_more l hl hn 0 k hk
  rw [show toI 0 = 0 by decide] at h
  rw [h]
  rfl
theorem ref_seal (l : List Int) (hl : Bytes l) (hn : l.length ≤ 1099511627776) (k : Nat) (hk : 10 * l.length < k) : roadsteadref02_Seal.f k l = some (sealB l) := by
  unfold roadsteadref02_Seal.f
  rw [ref_sum l hl hn k hk]
  have hr := toI_range (sumB l)
  simp only [Option.bind_some]
  rw [if_pos (by simp; omega), if_pos (by simp; omega)]
  rw [Int.tmod_eq_emod_of_nonneg hr.1, Int.tdiv_eq_ediv_of_nonneg hr.1, Int.tdiv_eq_ediv_of_nonneg hr.1, Int.tdiv_eq_ediv_of_nonneg hr.1]
  unfold sealB le4
  congr 1
  rw [List.nil_append]
  congr 1
  congr 1
  · omega
  · congr 1
    · omega
    · congr 1
      · omega
      · congr 1
        omega
theorem ref_right (l : List Int) (hl : Bytes l) (hn : l.length ≤ 1099511627776) (k : Nat) (hk : 10 * l.length < k) : roadsteadref02_Right.f k l = some (rightB l) := by
  unfold roadsteadref02_Right.f rightB
  have hw : wrap64 ((l.length : Int) - 4) = (l.length : Int) - 4 := wrap_small _ (by omega) (by omega)
  rw [hw]
  by_cases h : 4 ≤ l.length
  · rw [if_pos (by omega), if_pos (by omega), if_pos (by omega), show ((l.length : Int) - 4).toNat = l.length - 4 by omega, ref_seal _ (bytes_take hl _) (by rw [List.length_take]; omega) k (by rw [List.length_take]; omega)]
    simp only [Option.bind_some, str_beq (sealB_bytes (bytes_take hl _)) hl, decide_eq_true h, Bool.true_and]
  · rw [if_neg (by omega), decide_eq_false h]
    rfl
end Go.Proofs.YtpnlpbbnakplhaaDoor
