/- CrcAlike: the sums of two rows of one length differ as that of their difference does from that of noughts. No condition. -/
import Derived.Test.YtnhlgnheinigoaaPCrcAlikex2
import Derived.Test.YtnhlgnheinigoaaCrcFns
namespace Go.Proofs.Ytnhlgnheinigoaa.Pure
open Go.RowKit Go.Proofs.Ytnhlgnheinigoaa.BRight Go.Proofs.Ytnhlgnheinigoaa.PCrcAlike Go.Proofs.YtnhlgnheinigoaaW.PrintWords Go.Proofs.YtnhlgnheinigoaaW.PrintLast Go.Proofs.YtnhlgnheinigoaaW.PrintMore

theorem known_some : roadsteadlaw02_known.f = some true := rfl
def xor8 (a b : Int) : Int := Go.bits .xor .u8 a b
theorem xor8_byte (a b : Int) : Byte (xor8 a b) := bits_u8 .xor a b
theorem xor8_word {a b : Int} (ha : Byte a) (hb : Byte b) : ofI (xor8 a b) = ofI a ^^^ ofI b := by
  obtain ⟨ha0, ha1⟩ := ha
  obtain ⟨hb0, hb1⟩ := hb
  obtain ⟨m, rfl⟩ := Int.eq_ofNat_of_zero_le ha0
  obtain ⟨n, rfl⟩ := Int.eq_ofNat_of_zero_le hb0
  unfold xor8 bits ofI
  rw [IntKind.wrap_u8]
  show BitVec.ofInt 32 (((BitVec.ofInt 8 (m : Int) ^^^ BitVec.ofInt 8 (n : Int)).toNat : Int) % 256) = _
  have := (BitVec.ofInt 8 (m : Int) ^^^ BitVec.ofInt 8 (n : Int)).isLt
  rw [Int.emod_eq_of_lt (by omega) (by omega)]
  apply BitVec.eq_of_toNat_eq
  simp only [BitVec.ofInt_natCast, BitVec.toNat_xor, BitVec.toNat_ofNat]
  rw [Nat.mod_eq_of_lt (show m < 2 ^ 8 by omega), Nat.mod_eq_of_lt (show n < 2 ^ 8 by omega), Nat.mod_eq_of_lt (show m < 2 ^ 32 by omega), Nat.mod_eq_of_lt (show n < 2 ^ 32 by omega)]
  exact Nat.mod_eq_of_lt (Nat.lt_of_lt_of_le (Nat.xor_lt_two_pow (n := 8) (by omega) (by omega)) (by decide))
theorem inB_xor (x y c d : W32) : inB (x ^^^ y) (c ^^^ d) = inB x c ^^^ inB y d := by
  unfold inB
  rw [← stepsB_xor]
  congr 1
  rw [BitVec.xor_assoc, xor_left y c d, ← BitVec.xor_assoc]
theorem runB_zip : ∀ (l m : List Int), l.length = m.length → Bytes l → Bytes m → ∀ x y, runB (List.zipWith xor8 l m) (x ^^^ y) = runB l x ^^^ runB m y
  | [], [], _, _, _, x, y => rfl
  | [], _ :: _, h, _, _, _, _ => by simp at h
  | _ :: _, [], h, _, _, _, _ => by simp at h
  | a :: l, b :: m, h, hl, hm, x, y => by
    simp only [List.zipWith_cons_cons, runB]
    rw [xor8_word (hl a List.mem_cons_self) (hm b List.mem_cons_self), inB_xor]
    exact runB_zip l m (by simpa using h) (fun c hc => hl c (List.mem_cons_of_mem _ hc)) (fun c hc => hm c (List.mem_cons_of_mem _ hc)) _ _
theorem runB_zeros : ∀ (l : List Int) (x y : W32), runB l (x ^^^ y) = runB l x ^^^ runB (List.replicate l.length 0) y
  | [], _, _ => rfl
  | c :: l, x, y => by
    simp only [List.length_cons, List.replicate_succ, runB]
    rw [← runB_zeros l]
    congr 1
    rw [← inB_xor, show ofI 0 = 0 by decide]
    congr 1
    exact (BitVec.xor_zero).symm
theorem xor_mask (o a b : W32) : (o ^^^ a) ^^^ (o ^^^ b) = a ^^^ b := by
  rw [BitVec.xor_assoc, xor_left a o b, xor_self_left]
theorem alike (A B : List Int) (h : A.length = B.length) (hA : Bytes A) (hB : Bytes B) :
    sumB A ^^^ sumB B = sumB (List.zipWith xor8 A B) ^^^ sumB (List.replicate A.length 0) := by
  have h1 := runB_zip A B h hA hB ones ones
  have h2 := runB_zeros (List.zipWith xor8 A B) 0 ones
  rw [BitVec.xor_self] at h1
  have hlen : (List.zipWith xor8 A B).length = A.length := by simp [h]
  rw [hlen] at h2
  have h0 : (0 : W32) ^^^ ones = ones := BitVec.zero_xor
  have h3 : ones ^^^ (0 : W32) = ones := BitVec.xor_zero
  rw [h0, show (0 : W32) = 0#32 from rfl, h1] at h2
  unfold sumB moreB
  rw [h3, xor_mask, xor_mask, h2, BitVec.xor_assoc (runB A ones ^^^ runB B ones), BitVec.xor_self]
  exact (BitVec.xor_zero).symm
theorem bytes_zip (A B : List Int) : Bytes (List.zipWith xor8 A B) := by
  intro c hc
  obtain ⟨i, hi, rfl⟩ := List.getElem_of_mem hc
  rw [List.getElem_zipWith]
  exact xor8_byte _ _
theorem bytes_zeros (n : Nat) : Bytes (List.replicate n 0) := by
  intro c hc
  rw [(List.mem_replicate.1 hc).2]
  exact ⟨by decide, by decide⟩
/-- The loop: the difference, place by place. -/
theorem loop (A B : List Int) (n : Nat) (hn : n ≤ 300) (hA : n ≤ A.length) (hB : n ≤ B.length) (bA : Bytes A) (bB : Bytes B) (d : Nat) : ∀ (k i : Nat), i + d = n → d < k →
    roadsteadlaw02_CrcAlike.l0 k A B (n : Int) ((List.zipWith xor8 (A.take n) (B.take n)).take i ++ List.replicate (n - i) 0) (i : Int) = some true := by
  have hl : (List.zipWith xor8 (A.take n) (B.take n)).length = n := by simp; omega
  induction d with
  | zero =>
    intro k i hi hk
    obtain ⟨k, rfl⟩ : ∃ m, k = m + 1 := ⟨k - 1, by omega⟩
    obtain rfl : i = n := by omega
    simp only [roadsteadlaw02_CrcAlike.l0]
    rw [if_neg (by omega), known_some]
    simp only [Option.bind_some, if_true]
    rw [if_pos (by omega), if_pos (by omega)]
    simp only [Int.toNat_natCast, Nat.sub_self, List.replicate_zero, List.append_nil]
    rw [List.take_of_length_le (Nat.le_of_eq hl)]
    have ht : (A.take i).length = (B.take i).length := by simp; omega
    have hlA : (A.take i).length = i := by simp; omega
    rw [sum_f _ (bytes_take bA i) (by rw [hlA]; omega)]
    simp only [Option.bind_some]
    rw [if_pos (by omega), sum_f _ (bytes_take bB i) (by rw [← ht, hlA]; omega)]
    simp only [Option.bind_some]
    rw [sum_f _ (bytes_zip _ _) (by omega)]
    simp only [Option.bind_some]
    rw [if_pos (by omega), sum_f _ (bytes_zeros i) (by simp; omega)]
    simp only [Option.bind_some]
    rw [bits_xor32, bits_xor32, ofI_toI, ofI_toI, ofI_toI, ofI_toI, alike _ _ ht (bytes_take bA i) (bytes_take bB i), hlA]
    simp
  | succ d ih =>
    intro k i hi hk
    obtain ⟨k, rfl⟩ : ∃ m, k = m + 1 := ⟨k - 1, by omega⟩
    have hlt : i < n := by omega
    have hti : ((List.zipWith xor8 (A.take n) (B.take n)).take i).length = i := by rw [List.length_take]; omega
    simp only [roadsteadlaw02_CrcAlike.l0]
    rw [if_pos (by omega), if_pos (by omega), if_pos (by omega), if_pos (by omega), if_pos (by rw [List.length_append, hti, List.length_replicate]; omega), wrap_small _ (by omega) (by omega)]
    have hs : ((List.zipWith xor8 (A.take n) (B.take n)).take i ++ List.replicate (n - i) 0).set i (Go.bits .xor .u8 (rd A i) (rd B i)) = (List.zipWith xor8 (A.take n) (B.take n)).take (i + 1) ++ List.replicate (n - (i + 1)) 0 := by
      rw [List.take_succ_eq_append_getElem (by omega), List.append_assoc, show n - i = (n - (i + 1)) + 1 by omega, List.replicate_succ]
      rw [List.set_append_right _ _ (by omega), hti, Nat.sub_self]
      simp [rd, xor8, show i < A.length by omega, show i < B.length by omega]
    have h := ih k (i + 1) (by omega) (by omega)
    rw [← hs] at h
    simpa using h
theorem mn_eq (a b : Nat) : mn (a : Int) (b : Int) = ((min a b : Nat) : Int) := by
  unfold mn
  split <;> omega
theorem CrcAlike : roadsteadlaw02_CrcAlike.Pure := by
  intro A B _ hA bA _ hB bB
  have bA := bytes_of_wf bA
  have bB := bytes_of_wf bB
  refine ⟨301, ?_⟩
  unfold roadsteadlaw02_CrcAlike.f
  rw [mn_eq, show (300 : Int) = ((300 : Nat) : Int) from rfl, mn_eq, if_pos (by omega), if_pos (by omega)]
  have h := loop A B (min (min A.length B.length) 300) (by omega) (by omega) (by omega) bA bB (min (min A.length B.length) 300) 301 0 (by omega) (by omega)
  simpa using h
end Go.Proofs.Ytnhlgnheinigoaa.Pure
