/- The sum bit by bit: what a burst of up to 32 bits does to a sealed row. Plain laws; no condition. -/
import Derived.Test.YtpnlpbbnakplhaaDoorCrcFns
namespace Go.Proofs.YtpnlpbbnakplhaaDoor
open Go.RowKit Go.Proofs.YtpnlpbbnakplhaaDoorW.PrintWords Go.Proofs.YtpnlpbbnakplhaaDoorW.PrintMore
set_option linter.unusedVariables false

def bw (b : Bool) : W32 := if b then 1#32 else 0#32
theorem bw_xor (a b : Bool) : bw (a ^^ b) = bw a ^^^ bw b := by cases a <;> cases b <;> decide
/-- Bits 0 to n - 1 of e, one behind the other. -/
def runN (e : Nat → Bool) : Nat → W32 → W32
  | 0, x => x
  | n + 1, x => stepB (runN e n x ^^^ bw (e n))
theorem runN_xor (e f : Nat → Bool) (n : Nat) (x y : W32) : runN (fun k => e k ^^ f k) n (x ^^^ y) = runN e n x ^^^ runN f n y := by
  induction n with
  | zero => rfl
  | succ n ih =>
    simp only [runN]
    rw [ih, bw_xor, ← stepB_xor]
    congr 1
    rw [BitVec.xor_assoc, xor_left (runN f n y) (bw (e n)) (bw (f n)), ← BitVec.xor_assoc]
theorem runN_add (e : Nat → Bool) (n m : Nat) (x : W32) : runN e (n + m) x = runN (fun k => e (n + k)) m (runN e n x) := by
  induction m with
  | zero => rfl
  | succ m ih => rw [← Nat.add_assoc]; simp only [runN, ih]
theorem runN_congr {e f : Nat → Bool} {n : Nat} (h : ∀ k, k < n → e k = f k) (x : W32) : runN e n x = runN f n x := by
  induction n with
  | zero => rfl
  | succ n ih => simp only [runN]; rw [ih (fun k hk => h k (by omega)), h n (by omega)]
theorem runN_none (n : Nat) (x : W32) : runN (fun _ => false) n x = stepsB n x := by
  induction n with
  | zero => rfl
  | succ n ih => simp only [runN, stepsB, ih]; congr 1; exact BitVec.xor_zero
/-- The word of the first bits. -/
def word (e : Nat → Bool) : Nat → W32
  | 0 => 0#32
  | m + 1 => word e m ^^^ (bw (e m) <<< m)
theorem steps_bit (m : Nat) (hm : m < 32) (b : Bool) : stepsB m (bw b <<< m) = bw b := by
  rw [stepsB_even m _ (fun i hi => by simp [hi])]
  apply BitVec.eq_of_getLsbD_eq
  intro i hi
  cases b
  · simp [bw]
  · simp only [bw, if_true, BitVec.getLsbD_ushiftRight, BitVec.getLsbD_shiftLeft]
    by_cases h0 : i = 0
    · subst h0; simp [hm]
    · have h1 : (1#32).getLsbD i = false := by simp; omega
      by_cases hmi : m + i < 32
      · rw [show m + i - m = i by omega, h1]; simp
      · rw [h1]; simp; omega
theorem runN_word (e : Nat → Bool) (m : Nat) (hm : m ≤ 32) (x : W32) : runN e m x = stepsB m (x ^^^ word e m) := by
  induction m with
  | zero =>
    simp only [runN, stepsB, word]
    exact BitVec.xor_zero.symm
  | succ m ih =>
    simp only [runN, stepsB, word]
    rw [ih (by omega)]
    congr 1
    rw [← BitVec.xor_assoc, stepsB_xor m (x ^^^ word e m), steps_bit m (by omega)]
theorem word_zero (e : Nat → Bool) (m : Nat) (hm : 0 < m) : (word e m).getLsbD 0 = e 0 := by
  induction m with
  | zero => omega
  | succ m ih =>
    simp only [word, BitVec.getLsbD_xor]
    by_cases h0 : m = 0
    · subst h0
      cases e 0 <;> simp [word, bw]
    · rw [ih (by omega)]
      have : (bw (e m) <<< m).getLsbD 0 = false := by
        rw [BitVec.getLsbD_shiftLeft]
        simp; omega
      rw [this]; simp
/-- A burst within 32 bits leaves something. -/
theorem burst (e : Nat → Bool) (n p : Nat) (hp : ∀ k, k < n → e k = true → p ≤ k ∧ k < p + 32) (h : runN e n 0#32 = 0#32) : ∀ k, k < n → e k = false := by
  have hmin : ∀ q, q < n → (∀ k, k < q → e k = false) → e q = false := by
    intro q hq hz
    cases hb : e q with
    | false => rfl
    | true =>
      exfalso
      have hpq := (hp q hq hb).1
      have h0 : runN e q 0#32 = 0#32 := by
        rw [runN_congr hz, runN_none]
        exact stepsB_zero q
      have hw : ∀ m, 0 < m → m ≤ 32 → runN e (q + m) 0#32 ≠ 0#32 := by
        intro m hm0 hm hc
        rw [runN_add, h0, runN_word _ m hm] at hc
        have hx := stepsB_eq_zero m _ hc
        have hx0 := congrArg (fun z : W32 => z.getLsbD 0) hx
        simp only [BitVec.getLsbD_xor, word_zero _ m hm0] at hx0
        simp [hb] at hx0
      by_cases hn : n ≤ q + 32
      · exact hw (n - q) (by omega) (by omega) (by rw [show q + (n - q) = n by omega]; exact h)
      · have hz2 : ∀ k, k < n - (q + 32) → e (q + 32 + k) = false := by
          intro k hk
          cases hc : e (q + 32 + k) with
          | false => rfl
          | true => have := (hp _ (by omega) hc).2; omega
        have h2 : runN e n 0#32 = stepsB (n - (q + 32)) (runN e (q + 32) 0#32) := by
          rw [← runN_none, ← runN_congr hz2, ← runN_add]
          congr 1
          omega
        rw [h2] at h
        exact hw 32 (by decide) (Nat.le_refl _) (stepsB_eq_zero _ _ h)
  intro k
  induction k using Nat.strongRecOn with
  | ind k ih => exact fun hk => hmin k hk (fun j hj => ih j hj (by omega))

/-! ### Bytes as bits -/
def bitOf (l : List Int) (k : Nat) : Bool := (ofI (l.getD (k / 8) 0)).getLsbD (k % 8)
theorem word_byte (c : W32) (hc : c >>> 8 = 0) : word (fun k => c.getLsbD k) 8 = c := by
  have hlow : ∀ m, m ≤ 32 → ∀ i, i < 32 → (word (fun k => c.getLsbD k) m).getLsbD i = (decide (i < m) && c.getLsbD i) := by
    intro m
    induction m with
    | zero => intro _ i _; simp [word]
    | succ m ih =>
      intro hm i hi
      simp only [word, BitVec.getLsbD_xor]
      rw [ih (by omega) i hi, BitVec.getLsbD_shiftLeft]
      by_cases h1 : i < m
      · simp [h1, hi, show i < m + 1 by omega]
      · by_cases h2 : i = m
        · subst h2
          cases c.getLsbD i <;> simp [bw, hi]
        · have h3 : (bw (c.getLsbD m)).getLsbD (i - m) = false := by
            cases c.getLsbD m
            · simp [bw]
            · simp [bw]; omega
          rw [h3]
          simp [h1, show ¬ i < m + 1 by omega]
  apply BitVec.eq_of_getLsbD_eq
  intro i hi
  rw [hlow 8 (by decide) i hi]
  by_cases h8 : i < 8
  · simp [h8]
  · have hk := congrArg (fun z : W32 => z.getLsbD (i - 8)) hc
    simp at hk
    rw [show 8 + (i - 8) = i by omega] at hk
    rw [hk]; simp
theorem inB_bits (x : W32) (c : W32) (hc : c >>> 8 = 0) : inB x c = runN (fun k => c.getLsbD k) 8 x := by
  rw [runN_word _ 8 (by decide), word_byte c hc]
  rfl
theorem runB_bits (l : List Int) (hl : Bytes l) (x : W32) (i : Nat) (hi : i ≤ l.length) : runB (l.take i) x = runN (bitOf l) (8 * i) x := by
  induction i with
  | zero => rfl
  | succ i ih =>
    have hlt : i < l.length := by omega
    have happ : ∀ (a b : List Int) (x : W32), runB (a ++ b) x = runB b (runB a x) := by
      intro a b
      induction a with
      | nil => intro x; rfl
      | cons c a iha => intro x; simp only [List.cons_append, runB, iha]
    rw [List.take_succ_eq_append_getElem hlt, happ, ih (by omega), show 8 * (i + 1) = 8 * i + 8 by omega, runN_add]
    simp only [runB]
    rw [inB_bits _ _ (byte_word (hl _ (List.getElem_mem hlt)))]
    apply runN_congr
    intro k hk
    unfold bitOf
    rw [show (8 * i + k) / 8 = i by omega, show (8 * i + k) % 8 = k by omega]
    simp [hlt]
theorem runB_all (l : List Int) (hl : Bytes l) (x : W32) : runB l x = runN (bitOf l) (8 * l.length) x := by
  have h := runB_bits l hl x l.length (Nat.le_refl _)
  rwa [List.take_length] at h
/-- A word's own four bytes behind it: one and the same residue. -/
theorem bit_le4 (v : W32) (k : Nat) (hk : k < 32) : bitOf (le4 (toI v)) k = v.getLsbD k := by
  have hb : ∀ j, j < 4 → ofI ((le4 (toI v)).getD j 0) = (v >>> (8 * j)) &&& 255#32 := by
    have hm : ∀ n : W32, ofI (toI n % 256) = n &&& 255#32 := by
      intro n
      apply BitVec.eq_of_toNat_eq
      unfold ofI toI
      rw [show ((n.toNat : Int) % 256) = ((n.toNat % 256 : Nat) : Int) by omega, BitVec.ofInt_natCast, BitVec.toNat_ofNat, BitVec.toNat_and, show (255#32).toNat = 2 ^ 8 - 1 by decide, Nat.and_two_pow_sub_one_eq_mod]
      exact Nat.mod_eq_of_lt (by omega)
    have hr := toI_range v
    have hq : ∀ (j : Nat) (d : Int), d = ((2 ^ j : Nat) : Int) → ofI (toI v / d % 256) = (v >>> j) &&& 255#32 := by
      intro j d hd
      have hd0 : 0 < d := by rw [hd]; exact_mod_cast Nat.two_pow_pos j
      have h1 := ofI_half v j d hd
      have h2 : toI v / d = toI (v >>> j) := by
        rw [← h1, toI_ofI _ (Int.ediv_nonneg hr.1 (by omega)) (Int.lt_of_le_of_lt (Int.ediv_le_self _ hr.1) hr.2)]
      rw [h2, hm]
    intro j hj
    have : j = 0 ∨ j = 1 ∨ j = 2 ∨ j = 3 := by omega
    rcases this with rfl | rfl | rfl | rfl
    · simp only [le4, List.getD_cons_zero]; rw [hm]; simp
    · simp only [le4, List.getD_cons_succ, List.getD_cons_zero]; exact hq 8 256 (by decide)
    · simp only [le4, List.getD_cons_succ, List.getD_cons_zero]; exact hq 16 65536 (by decide)
    · simp only [le4, List.getD_cons_succ, List.getD_cons_zero]; exact hq 24 16777216 (by decide)
  unfold bitOf
  rw [hb (k / 8) (by omega)]
  have h255 : ∀ i, i < 8 → (255#32).getLsbD i = true := by decide
  rw [BitVec.getLsbD_and, BitVec.getLsbD_ushiftRight, h255 _ (Nat.mod_lt _ (by decide)), Bool.and_true]
  congr 1
  omega
theorem word_le4 (v : W32) : word (bitOf (le4 (toI v))) 32 = v := by
  have hlow : ∀ (e : Nat → Bool) m, m ≤ 32 → ∀ i, i < 32 → (word e m).getLsbD i = (decide (i < m) && e i) := by
    intro e m
    induction m with
    | zero => intro _ i _; simp [word]
    | succ m ih =>
      intro hm i hi
      simp only [word, BitVec.getLsbD_xor]
      rw [ih (by omega) i hi, BitVec.getLsbD_shiftLeft]
      by_cases h1 : i < m
      · simp [h1, hi, show i < m + 1 by omega]
      · by_cases h2 : i = m
        · subst h2
          cases e i <;> simp [bw, hi]
        · have h3 : (bw (e m)).getLsbD (i - m) = false := by
            cases e m
            · simp [bw]
            · simp [bw]; omega
          rw [h3]
          simp [h1, show ¬ i < m + 1 by omega]
  apply BitVec.eq_of_getLsbD_eq
  intro i hi
  rw [hlow _ 32 (by decide) i hi, bit_le4 v i hi]
  simp [hi]
theorem sealed_residue (b : List Int) (hb : Bytes b) : runB (sealB b) ones = stepsB 32 ones := by
  have happ : ∀ (a c : List Int) (x : W32), runB (a ++ c) x = runB c (runB a x) := by
    intro a c
    induction a with
    | nil => intro x; rfl
    | cons d a iha => intro x; simp only [List.cons_append, runB, iha]
  unfold sealB
  rw [happ, runB_all _ (le4_bytes _), le4_length, runN_word _ 32 (by decide), word_le4]
  congr 1
  unfold sumB moreB
  rw [show ones ^^^ (0 : W32) = ones from BitVec.xor_zero, xor_left, BitVec.xor_self]
  exact BitVec.xor_zero
/-- Two sealed rows of one length that differ only within 32 bits are the same, bit for bit. -/
theorem sealed_alike (b c : List Int) (hb : Bytes b) (hc : Bytes c) (hlen : b.length = c.length) (p : Nat)
    (hp : ∀ k, k < 8 * (sealB b).length → bitOf (sealB b) k ≠ bitOf (sealB c) k → p ≤ k ∧ k < p + 32) : ∀ k, k < 8 * (sealB b).length → bitOf (sealB b) k = bitOf (sealB c) k := by
  have hl : (sealB c).length = (sealB b).length := by rw [sealB_length, sealB_length, hlen]
  have h := runN_xor (bitOf (sealB b)) (bitOf (sealB c)) (8 * (sealB b).length) ones ones
  rw [← runB_all _ (sealB_bytes hb), ← hl, ← runB_all _ (sealB_bytes hc), sealed_residue b hb, sealed_residue c hc, BitVec.xor_self, BitVec.xor_self, hl] at h
  have hz := burst _ _ p (fun k hk he => hp k hk (fun e => by rw [e] at he; simp at he)) h
  intro k hk
  have := hz k hk
  cases h1 : bitOf (sealB b) k <;> cases h2 : bitOf (sealB c) k <;> simp [h1, h2] at this ⊢
end Go.Proofs.YtpnlpbbnakplhaaDoor
