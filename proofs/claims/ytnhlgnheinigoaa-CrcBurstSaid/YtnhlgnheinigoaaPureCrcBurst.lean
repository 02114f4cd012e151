/- CrcBurst: with any bits within 32 in a row others, nothing that was sealed is right any more. No condition. -/
import Derived.Test.YtnhlgnheinigoaaPCrcBurstx1
import Derived.Test.YtnhlgnheinigoaaCrcBits
namespace Go.Proofs.Ytnhlgnheinigoaa.Pure
open Go.RowKit Go.Proofs.Ytnhlgnheinigoaa.BRight Go.Proofs.Ytnhlgnheinigoaa.PCrcBurst Go.Proofs.YtnhlgnheinigoaaW.PrintWords Go.Proofs.YtnhlgnheinigoaaW.PrintLast Go.Proofs.YtnhlgnheinigoaaW.PrintMore

theorem known_some : roadsteadlaw02_known.f = some true := rfl
theorem bytes_set {l : List Int} (hl : Bytes l) (i : Nat) {v : Int} (hv : Byte v) : Bytes (l.set i v) := by
  intro c hc
  rcases List.mem_or_eq_of_mem_set hc with h | rfl
  · exact hl c h
  · exact hv
theorem xor8_word {a b : Int} (ha : Byte a) (hb : Byte b) : ofI (Go.bits .xor .u8 a b) = ofI a ^^^ ofI b := by
  obtain ⟨ha0, ha1⟩ := ha
  obtain ⟨hb0, hb1⟩ := hb
  obtain ⟨m, rfl⟩ := Int.eq_ofNat_of_zero_le ha0
  obtain ⟨n, rfl⟩ := Int.eq_ofNat_of_zero_le hb0
  unfold bits ofI
  rw [IntKind.wrap_u8]
  show BitVec.ofInt 32 (((BitVec.ofInt 8 (m : Int) ^^^ BitVec.ofInt 8 (n : Int)).toNat : Int) % 256) = _
  have := (BitVec.ofInt 8 (m : Int) ^^^ BitVec.ofInt 8 (n : Int)).isLt
  rw [Int.emod_eq_of_lt (by omega) (by omega)]
  apply BitVec.eq_of_toNat_eq
  simp only [BitVec.ofInt_natCast, BitVec.toNat_xor, BitVec.toNat_ofNat]
  rw [Nat.mod_eq_of_lt (show m < 2 ^ 8 by omega), Nat.mod_eq_of_lt (show n < 2 ^ 8 by omega), Nat.mod_eq_of_lt (show m < 2 ^ 32 by omega), Nat.mod_eq_of_lt (show n < 2 ^ 32 by omega)]
  exact Nat.mod_eq_of_lt (Nat.lt_of_lt_of_le (Nat.xor_lt_two_pow (n := 8) (by omega) (by omega)) (by decide))
theorem one_bit : ∀ r : Nat, r < 8 → Byte (shl .u8 1 (r : Int)) ∧ ∀ m, m < 8 → (ofI (shl .u8 1 (r : Int))).getLsbD m = decide (m = r) := by
  unfold Byte
  decide +kernel
theorem bit_set (x : List Int) (hx : Bytes x) (j r : Nat) (hj : j < x.length) (hr : r < 8) (k : Nat) :
    bitOf (x.set j (Go.bits .xor .u8 (rd x (j : Int)) (shl .u8 1 (r : Int)))) k = (bitOf x k ^^ decide (k = 8 * j + r)) := by
  have hrd : rd x (j : Int) = x[j] := by simp [rd, hj]
  obtain ⟨h1, h2⟩ := one_bit r hr
  unfold bitOf
  by_cases he : k / 8 = j
  · rw [he]
    have hs : (x.set j (Go.bits .xor .u8 (rd x (j : Int)) (shl .u8 1 (r : Int)))).getD j 0 = Go.bits .xor .u8 (rd x (j : Int)) (shl .u8 1 (r : Int)) := by simp [List.getD, hj]
    have hg : x.getD j 0 = x[j] := by simp [List.getD, hj]
    rw [hs, hg, hrd, xor8_word (hx _ (List.getElem_mem hj)) h1, BitVec.getLsbD_xor, h2 _ (Nat.mod_lt _ (by decide))]
    congr 1
    rw [decide_eq_decide]
    omega
  · have hs : (x.set j (Go.bits .xor .u8 (rd x (j : Int)) (shl .u8 1 (r : Int)))).getD (k / 8) 0 = x.getD (k / 8) 0 := by
      simp only [List.getD, List.getElem?_set]
      rw [if_neg (fun e => he e.symm)]
    rw [hs, decide_eq_false (by omega)]
    simp
def bitAt (a : Int) (i : Nat) : Bool := decide (a / 2 ^ i % 2 = 1)
def tog (a : Int) (p i k : Nat) : Bool := decide (p ≤ k ∧ k < p + i) && bitAt a (k - p)
theorem tog_succ (a : Int) (p i k : Nat) : tog a p (i + 1) k = (tog a p i k ^^ (decide (k = p + i) && bitAt a i)) := by
  unfold tog
  by_cases h : k = p + i
  · subst h
    simp [show p + i - p = i by omega]
  · rw [decide_eq_false h]
    by_cases h2 : p ≤ k ∧ k < p + i
    · rw [decide_eq_true h2, decide_eq_true (show p ≤ k ∧ k < p + (i + 1) by omega)]; simp
    · rw [decide_eq_false h2, decide_eq_false (show ¬ (p ≤ k ∧ k < p + (i + 1)) by omega)]; simp
/-- What holds at the head of round i. -/
structure Inv (s : List Int) (a : Int) (p i : Nat) (x : List Int) (ch : Bool) : Prop where
  len : x.length = s.length
  bytes : Bytes x
  bit : ∀ k, k < 8 * s.length → bitOf x k = (bitOf s k ^^ tog a p i k)
  ch : ch = true ↔ ∃ k, k < 8 * s.length ∧ tog a p i k = true
theorem inv_keep {s : List Int} {a : Int} {p i : Nat} {x : List Int} {ch : Bool} (h : Inv s a p i x ch) (hn : ¬ p + i < 8 * s.length ∨ bitAt a i = false) : Inv s a p (i + 1) x ch := by
  have ht : ∀ k, k < 8 * s.length → tog a p (i + 1) k = tog a p i k := by
    intro k hk
    rw [tog_succ]
    rcases hn with hn | hn
    · rw [decide_eq_false (show ¬ k = p + i by omega)]; simp
    · rw [hn]; simp
  refine ⟨h.len, h.bytes, fun k hk => by rw [ht k hk]; exact h.bit k hk, h.ch.trans ⟨?_, ?_⟩⟩
  · rintro ⟨k, hk, he⟩; exact ⟨k, hk, by rw [ht k hk]; exact he⟩
  · rintro ⟨k, hk, he⟩; exact ⟨k, hk, by rw [← ht k hk]; exact he⟩
theorem inv_turn {s : List Int} {a : Int} {p i : Nat} {x : List Int} {ch : Bool} (h : Inv s a p i x ch) (hlt : p + i < 8 * s.length) (hb : bitAt a i = true) :
    Inv s a p (i + 1) (x.set ((p + i) / 8) (Go.bits .xor .u8 (rd x (((p + i) / 8 : Nat) : Int)) (shl .u8 1 (((p + i) % 8 : Nat) : Int)))) true := by
  have hl := h.len
  refine ⟨by rw [List.length_set]; exact hl, bytes_set h.bytes _ (bits_u8 _ _ _), fun k hk => ?_, ?_⟩
  · rw [bit_set x h.bytes _ _ (by omega) (Nat.mod_lt _ (by decide)), h.bit k hk, tog_succ, hb, Bool.and_true, Bool.xor_assoc]
    congr 2
    rw [decide_eq_decide]
    omega
  · refine ⟨fun _ => ⟨p + i, hlt, ?_⟩, fun _ => rfl⟩
    unfold tog
    rw [decide_eq_true (by omega), show p + i - p = i by omega, hb]
    rfl
theorem shr_bit (a : Int) (h0 : 0 ≤ a) (i : Nat) (hi : i < 32) : (Int.tmod (shr .u32 a (IntKind.u64.wrap (i : Int))) 2 = 1) ↔ bitAt a i = true := by
  have hw : IntKind.u64.wrap (i : Int) = (i : Int) := by
    simp [IntKind.wrap, IntKind.bits, IntKind.signed]
    omega
  unfold shr bitAt
  rw [hw, Int.toNat_natCast, show min i IntKind.u32.bits = i by simp [IntKind.bits]; omega, Int.tmod_eq_emod_of_nonneg (Int.ediv_nonneg h0 (by exact_mod_cast Nat.zero_le (2 ^ i))), decide_eq_true_iff]
theorem loop (s : List Int) (hs4 : 4 ≤ s.length) (hs : s.length ≤ 304) (a1 a2 : Int) (h10 : 0 ≤ a1) (h11 : a1 < 65536) (h20 : 0 ≤ a2) (d : Nat) : ∀ (k i : Nat) (x : List Int) (ch : Bool), i + d = 32 → d < k →
    Inv s a2 (a1.toNat % (8 * s.length)) i x ch → ∃ x' ch', Inv s a2 (a1.toNat % (8 * s.length)) 32 x' ch' ∧ roadsteadlaw02_CrcBurst.l0 k a1 a2 x ch (i : Int) = some (rightB x' == !ch') := by
  induction d with
  | zero =>
    intro k i x ch hi hk hinv
    obtain ⟨k, rfl⟩ : ∃ m, k = m + 1 := ⟨k - 1, by omega⟩
    obtain rfl : i = 32 := by omega
    refine ⟨x, ch, hinv, ?_⟩
    simp only [roadsteadlaw02_CrcBurst.l0]
    have hl := hinv.len
    rw [if_neg (by omega), known_some]
    simp only [Option.bind_some, if_true]
    rw [right_f x hinv.bytes (by omega)]
    rfl
  | succ d ih =>
    intro k i x ch hi hk hinv
    obtain ⟨k, rfl⟩ : ∃ m, k = m + 1 := ⟨k - 1, by omega⟩
    have hl := hinv.len
    have hw8 : wrap64 (8 * (x.length : Int)) = ((8 * s.length : Nat) : Int) := by rw [hl, wrap_small _ (by omega) (by omega)]; omega
    have hK : wrap64 ((Int.tmod (wrap64 a1) ((8 * s.length : Nat) : Int)) + (i : Int)) = ((a1.toNat % (8 * s.length) + i : Nat) : Int) := by
      rw [wrap_small a1 (by omega) (by omega), Int.tmod_eq_emod_of_nonneg h10]
      have hm : a1 % ((8 * s.length : Nat) : Int) = ((a1.toNat % (8 * s.length) : Nat) : Int) := by
        obtain ⟨m, rfl⟩ := Int.eq_ofNat_of_zero_le h10
        simp
      rw [hm]
      have := Nat.mod_lt a1.toNat (show 8 * s.length > 0 by omega)
      rw [wrap_small _ (by omega) (by omega)]
      omega
    have hpl := Nat.mod_lt a1.toNat (show 8 * s.length > 0 by omega)
    generalize a1.toNat % (8 * s.length) = p at *
    have hi1 : wrap64 ((i : Int) + 1) = ((i + 1 : Nat) : Int) := by rw [wrap_small _ (by omega) (by omega)]; omega
    simp only [roadsteadlaw02_CrcBurst.l0]
    rw [hw8, hK]
    clear hK hw8
    have e0 : ¬ ((8 * s.length : Nat) : Int) = 0 := by omega
    have e1 : ((i : Nat) : Int) < 32 := by omega
    rw [if_pos e1, if_neg e0, hi1]
    clear hi1
    by_cases hlt : p + i < 8 * s.length
    · have hwi : 0 ≤ IntKind.u64.wrap (i : Int) := by
        simp [IntKind.wrap, IntKind.bits, IntKind.signed]
        omega
      rw [if_pos (by omega), if_pos hwi]
      by_cases hb : bitAt a2 i = true
      · rw [if_pos ((shr_bit a2 h20 i (by omega)).2 hb)]
        have hd : wrap64 (Int.tdiv ((p + i : Nat) : Int) 8) = (((p + i) / 8 : Nat) : Int) := by
          rw [Int.tdiv_eq_ediv_of_nonneg (by omega), wrap_small _ (by omega) (by omega)]
          omega
        have hm : IntKind.u64.wrap (Int.tmod ((p + i : Nat) : Int) 8) = (((p + i) % 8 : Nat) : Int) := by
          rw [Int.tmod_eq_emod_of_nonneg (by omega)]
          simp [IntKind.wrap, IntKind.bits, IntKind.signed]
          omega
        rw [hd, hm, if_pos (by omega), if_pos (by omega), if_pos (by omega), Int.toNat_natCast]
        exact ih k (i + 1) _ _ (by omega) (by omega) (inv_turn hinv hlt hb)
      · rw [if_neg (fun h => hb ((shr_bit a2 h20 i (by omega)).1 h))]
        exact ih k (i + 1) _ _ (by omega) (by omega) (inv_keep hinv (.inr (by simpa using hb)))
    · rw [if_neg (by omega)]
      exact ih k (i + 1) _ _ (by omega) (by omega) (inv_keep hinv (.inl hlt))
theorem right_sealed (b : List Int) : rightB (sealB b) = true := by
  unfold rightB
  have hl := sealB_length b
  have ht : (sealB b).take ((sealB b).length - 4) = b := by rw [hl, Nat.add_sub_cancel]; unfold sealB; rw [List.take_left]
  have h4 : 4 ≤ (sealB b).length := by omega
  have h5 : sealB ((sealB b).take ((sealB b).length - 4)) = sealB b := congrArg sealB ht
  rw [decide_eq_true h4, decide_eq_true h5]
  rfl
/-- The end: right just if no bit was turned. -/
theorem ends (b : List Int) (hb : Bytes b) (a2 : Int) (p : Nat) (x : List Int) (ch : Bool) (h : Inv (sealB b) a2 p 32 x ch) : rightB x = !ch := by
  cases hc : ch with
  | false =>
    have hz : ∀ k, k < 8 * (sealB b).length → tog a2 p 32 k = false := by
      intro k hk
      cases ht : tog a2 p 32 k with
      | false => rfl
      | true => have := h.ch.2 ⟨k, hk, ht⟩; rw [hc] at this; cases this
    have hx : x = sealB b := by
      apply List.ext_getElem h.len
      intro j h1 h2
      have hw : ofI x[j] = ofI (sealB b)[j] := by
        have b1 := byte_word (h.bytes _ (List.getElem_mem h1))
        have b2 := byte_word (sealB_bytes hb _ (List.getElem_mem h2))
        apply BitVec.eq_of_getLsbD_eq
        intro m hm
        by_cases h8 : m < 8
        · have := h.bit (8 * j + m) (by omega)
          rw [hz _ (by omega), Bool.xor_false] at this
          unfold bitOf at this
          rw [show (8 * j + m) / 8 = j by omega, show (8 * j + m) % 8 = m by omega] at this
          simpa [List.getD, h1, h2] using this
        · have k1 := congrArg (fun z : W32 => z.getLsbD (m - 8)) b1
          have k2 := congrArg (fun z : W32 => z.getLsbD (m - 8)) b2
          simp only [BitVec.getLsbD_ushiftRight, show 8 + (m - 8) = m by omega] at k1 k2
          rw [k1, k2]
      have r1 := h.bytes _ (List.getElem_mem h1)
      have r2 := sealB_bytes hb _ (List.getElem_mem h2)
      rw [← toI_ofI x[j] r1.1 (by have := r1.2; omega), hw, toI_ofI _ r2.1 (by have := r2.2; omega)]
    rw [hx, right_sealed]
    rfl
  | true =>
    obtain ⟨k, hk, ht⟩ := h.ch.1 hc
    cases hr : rightB x with
    | false => rfl
    | true =>
      exfalso
      unfold rightB at hr
      simp only [Bool.and_eq_true, decide_eq_true_iff] at hr
      obtain ⟨h4, hs⟩ := hr
      have hlen : b.length = (x.take (x.length - 4)).length := by
        have h1 := h.len
        rw [sealB_length] at h1
        rw [List.length_take]
        omega
      have hp : ∀ k, k < 8 * (sealB b).length → bitOf (sealB b) k ≠ bitOf (sealB (x.take (x.length - 4))) k → p ≤ k ∧ k < p + 32 := by
        intro k hk hne
        rw [hs, h.bit k hk] at hne
        cases ht : tog a2 p 32 k with
        | false => rw [ht] at hne; simp at hne
        | true =>
          unfold tog at ht
          simp only [Bool.and_eq_true, decide_eq_true_iff] at ht
          exact ht.1
      have he := sealed_alike b (x.take (x.length - 4)) hb (bytes_take h.bytes _) hlen p hp k hk
      rw [hs, h.bit k hk, ht] at he
      simp at he
theorem CrcBurst : roadsteadlaw02_CrcBurst.Pure := by
  intro b a1 a2 _ hl hb h1 h2
  have hb := bytes_of_wf hb
  have h1' : 0 ≤ a1 ∧ a1 < 65536 := by
    simp [Lit.wf, IntKind.min, IntKind.max, IntKind.signed, IntKind.bits] at h1
    omega
  have h2' : 0 ≤ a2 := by
    simp [Lit.wf, IntKind.min, IntKind.max, IntKind.signed, IntKind.bits] at h2
    omega
  by_cases h : (b.length : Int) > 300
  · refine ⟨0, ?_⟩
    unfold roadsteadlaw02_CrcBurst.f
    rw [if_pos h, known_some]; rfl
  · have hsl := sealB_length b
    have h0 : Inv (sealB b) a2 (a1.toNat % (8 * (sealB b).length)) 0 (sealB b) false := by
      have hz : ∀ k, tog a2 (a1.toNat % (8 * (sealB b).length)) 0 k = false := by
        intro k
        unfold tog
        rw [decide_eq_false (by omega)]; rfl
      exact ⟨rfl, sealB_bytes hb, fun k _ => by rw [hz]; simp, ⟨(fun e => by cases e), (fun ⟨k, _, e⟩ => by rw [hz] at e; cases e)⟩⟩
    obtain ⟨K, hK⟩ : ∃ K, K = 33 := ⟨33, rfl⟩
    obtain ⟨x', ch', hinv, he⟩ := loop (sealB b) (by omega) (by omega) a1 a2 h1'.1 h1'.2 h2' 32 K 0 (sealB b) false (by omega) (by omega) h0
    refine ⟨K + 1, ?_⟩
    clear hK
    unfold roadsteadlaw02_CrcBurst.f
    rw [if_neg h, seal_f b hb (by omega), Option.bind_some]
    rw [hsl, wrap_small _ (by omega) (by omega), if_pos (by omega), right_f _ (sealB_bytes hb) (by omega), right_sealed, Option.bind_some, Bool.not_true]
    rw [roadsteadlaw02_CrcBurst.j0, if_neg Bool.false_ne_true]
    rw [ends b hb a2 _ x' ch' hinv, Int.natCast_zero] at he
    rw [he]
    simp
end Go.Proofs.Ytnhlgnheinigoaa.Pure
