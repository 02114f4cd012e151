/- The reference's words and block are the program's: plain law. -/
import Derived.Test.YtpnlpbbnakplhaaDoorShaSum
import Derived.Test.YtpnlpbbnakplhaaDoorRBeginx1
import Derived.Test.YtpnlpbbnakplhaaDoorRwordsx2
import Derived.Test.YtpnlpbbnakplhaaDoorRblockx2
import Derived.Test.YtpnlpbbnakplhaaDoorRpaddedx1
namespace Go.Proofs.YtpnlpbbnakplhaaDoor
open Go.RowKit Go.Proofs.YtpnlpbbnakplhaaDoorW.PrintWords Go.Proofs.YtpnlpbbnakplhaaDoorW.PrintLast Go.Proofs.YtpnlpbbnakplhaaDoorW.PrintMore
def roundI (i : Int) : Int := if 0 ≤ i ∧ i < 64 then rd addedNums i else 0
def beginI (i : Int) : Int := if 0 ≤ i ∧ i < 8 then rd begunNums i else 0
theorem round_pure (i : Int) : Rblock.roadsteadref03_Round.f i = some (roundI i) := by
  unfold Rblock.roadsteadref03_Round.f roundI
  by_cases h0 : i < 0
  · rw [if_pos h0, if_neg (by omega)]
  · rw [if_neg h0]
    by_cases h1 : i > 63
    · rw [if_pos h1, if_neg (by omega)]
    · rw [if_neg h1, if_pos (by omega), Option.bind_some, if_pos (by omega), if_pos (by simp; omega)]
      rfl
theorem begin_pure (i : Int) : RBegin.roadsteadref03_Begin.f i = some (beginI i) := by
  unfold RBegin.roadsteadref03_Begin.f beginI
  by_cases h0 : i < 0
  · rw [if_pos h0, if_neg (by omega)]
  · rw [if_neg h0]
    by_cases h1 : i > 7
    · rw [if_pos h1, if_neg (by omega)]
    · rw [if_neg h1, if_pos (by omega), Option.bind_some, if_pos (by omega), if_pos (by simp; omega)]
      rfl
theorem or_comm32 (a b : Int) : Go.bits .or .u32 a b = Go.bits .or .u32 b a := by
  simp only [Go.bits, BitVec.or_comm]
theorem turn_of (x n m : Int) (h1 : IntKind.u64.wrap n = n) (h2 : IntKind.u64.wrap (wrap64 (32 - n)) = m) (h3 : Go.bits .and .u64 (IntKind.u64.wrap (-n)) 31 = m) (h4 : IntKind.u64.wrap (32 - m) = n) (h0 : 0 ≤ n) (h5 : 0 ≤ m) :
    Rblock.roadsteadref03_turn.f x n = some (rotI x (-n)) := by
  unfold Rblock.roadsteadref03_turn.f rotI
  rw [h1, h2, h3, h4, if_pos h0, if_pos h5, or_comm32]
theorem turn_words (x n : Int) : Rwords.roadsteadref03_turn.f x n = Rblock.roadsteadref03_turn.f x n := rfl
theorem turn2 (x : Int) : Rblock.roadsteadref03_turn.f x 2 = some (rotI x (-2)) := turn_of x 2 30 (by decide +kernel) (by decide +kernel) (by decide +kernel) (by decide +kernel) (by decide) (by decide)
theorem turn6 (x : Int) : Rblock.roadsteadref03_turn.f x 6 = some (rotI x (-6)) := turn_of x 6 26 (by decide +kernel) (by decide +kernel) (by decide +kernel) (by decide +kernel) (by decide) (by decide)
theorem turn7 (x : Int) : Rblock.roadsteadref03_turn.f x 7 = some (rotI x (-7)) := turn_of x 7 25 (by decide +kernel) (by decide +kernel) (by decide +kernel) (by decide +kernel) (by decide) (by decide)
theorem turn11 (x : Int) : Rblock.roadsteadref03_turn.f x 11 = some (rotI x (-11)) := turn_of x 11 21 (by decide +kernel) (by decide +kernel) (by decide +kernel) (by decide +kernel) (by decide) (by decide)
theorem turn13 (x : Int) : Rblock.roadsteadref03_turn.f x 13 = some (rotI x (-13)) := turn_of x 13 19 (by decide +kernel) (by decide +kernel) (by decide +kernel) (by decide +kernel) (by decide) (by decide)
theorem turn17 (x : Int) : Rblock.roadsteadref03_turn.f x 17 = some (rotI x (-17)) := turn_of x 17 15 (by decide +kernel) (by decide +kernel) (by decide +kernel) (by decide +kernel) (by decide) (by decide)
theorem turn18 (x : Int) : Rblock.roadsteadref03_turn.f x 18 = some (rotI x (-18)) := turn_of x 18 14 (by decide +kernel) (by decide +kernel) (by decide +kernel) (by decide +kernel) (by decide) (by decide)
theorem turn19 (x : Int) : Rblock.roadsteadref03_turn.f x 19 = some (rotI x (-19)) := turn_of x 19 13 (by decide +kernel) (by decide +kernel) (by decide +kernel) (by decide +kernel) (by decide) (by decide)
theorem turn22 (x : Int) : Rblock.roadsteadref03_turn.f x 22 = some (rotI x (-22)) := turn_of x 22 10 (by decide +kernel) (by decide +kernel) (by decide +kernel) (by decide +kernel) (by decide) (by decide)
theorem turn25 (x : Int) : Rblock.roadsteadref03_turn.f x 25 = some (rotI x (-25)) := turn_of x 25 7 (by decide +kernel) (by decide +kernel) (by decide +kernel) (by decide +kernel) (by decide) (by decide)
/-- One block: the reference's rounds. -/
theorem block_l1 (s v : List Int) (hs : s.length = 8) (hv : v.length = 8) : ∀ (j n k : Nat), j + n = 8 → n < k → Rblock.roadsteadref03_block.l1 k s v ((addTo s v 8).take j) j = some (addTo s v 8)
  | j, 0, k + 1, h, _ => by
    obtain rfl : j = 8 := by omega
    rw [Rblock.roadsteadref03_block.l1, if_neg (by decide)]
    rw [List.take_of_length_le (by simp [addTo])]
  | j, n + 1, k + 1, h, hk => by
    have hj : j < 8 := by omega
    have hl : ((addTo s v 8).take j).length = j := by simp [addTo]; omega
    rw [Rblock.roadsteadref03_block.l1, if_pos (by omega), if_pos (by omega), if_pos (by omega), if_pos (by omega), if_pos (by omega)]
    have e : wrap64 ((j : Int) + 1) = ((j + 1 : Nat) : Int) := by unfold wrap64; omega
    rw [e]
    have ht : (addTo s v 8).take j ++ [(rd s j + rd v j) % 4294967296] = (addTo s v 8).take (j + 1) := by
      rw [List.take_add_one]
      congr 1
      simp [addTo, hj]
    rw [ht]
    exact block_l1 s v hs hv (j + 1) n k (by omega) (by omega)
theorem roundI_at (t : Nat) (h : t < 64) : roundI (t : Int) = rd addedNums t := by unfold roundI; rw [if_pos (by omega)]
theorem block_l0 (s ws : List Int) (hs : s.length = 8) (hw : ws.length = 64) : ∀ (t n k : Nat), t + n = 64 → n + 9 < k → Rblock.roadsteadref03_block.l0 k s ws (rounds s ws t) t = some (addTo s (rounds s ws 64) 8)
  | t, 0, k + 1, h, _ => by
    obtain rfl : t = 64 := by omega
    rw [Rblock.roadsteadref03_block.l0, if_neg (by decide)]
    exact block_l1 s (rounds s ws 64) hs (rounds_length s ws hs 64) 0 8 k (by omega) (by omega)
  | t, n + 1, k + 1, h, hk => by
    have ht : t < 64 := by omega
    have hv := rounds_length s ws hs t
    have ih := block_l0 s ws hs hw (t + 1) n k (by omega) (by omega)
    rw [rounds] at ih
    generalize rounds s ws t = v at hv ih ⊢
    have e : wrap64 ((t : Int) + 1) = ((t + 1 : Nat) : Int) := by unfold wrap64; omega
    rw [Rblock.roadsteadref03_block.l0, if_pos (by omega), if_pos (by omega), if_pos (by omega), if_pos (by omega), turn6, Option.bind_some, turn11, Option.bind_some, turn25, Option.bind_some, if_pos (by omega), if_pos (by omega), round_pure, Option.bind_some, if_pos (by omega), if_pos (by omega), turn2, Option.bind_some, turn13, Option.bind_some, turn22, Option.bind_some, if_pos (by omega), if_pos (by omega), if_pos (by omega), e, ← ih, roundI_at t ht]
    congr 1
    unfold roundB uI xI
    congr 1
    · omega
    · congr 4
      omega
theorem block_pure (s ws : List Int) (hs : s.length = 8) (hw : ws.length = 64) : Rblock.roadsteadref03_block.f 100 s ws = some (addTo s (rounds s ws 64) 8) := by
  unfold Rblock.roadsteadref03_block.f
  rw [if_pos (by simp; omega)]
  exact block_l0 s ws hs hw 0 64 100 (by omega) (by omega)
theorem bits_or_u32_nat (a b : Nat) (ha : a < 4294967296) (hb : b < 4294967296) : Go.bits .or .u32 (a : Int) (b : Int) = ((a ||| b : Nat) : Int) := by
  have hx : a ||| b < 2 ^ 32 := Nat.or_lt_two_pow (by omega) (by omega)
  have h1 : (BitVec.ofInt 32 (a : Int)).toNat = a := by
    rw [BitVec.ofInt_natCast, BitVec.toNat_ofNat]; exact Nat.mod_eq_of_lt (by omega)
  have h2 : (BitVec.ofInt 32 (b : Int)).toNat = b := by
    rw [BitVec.ofInt_natCast, BitVec.toNat_ofNat]; exact Nat.mod_eq_of_lt (by omega)
  show IntKind.u32.wrap ((BitVec.ofInt 32 (a : Int) ||| BitVec.ofInt 32 (b : Int)).toNat : Int) = _
  rw [BitVec.toNat_or, h1, h2, IntKind.wrap_u32]
  omega
theorem or_four (a b c d : Int) (ha : 0 ≤ a ∧ a < 256) (hb : 0 ≤ b ∧ b < 256) (hc : 0 ≤ c ∧ c < 256) (hd : 0 ≤ d ∧ d < 256) :
    Go.bits .or .u32 (Go.bits .or .u32 (Go.bits .or .u32 (a * 16777216) (b * 65536)) (c * 256)) d = a * 16777216 + b * 65536 + c * 256 + d := by
  obtain ⟨a, rfl⟩ := Int.eq_ofNat_of_zero_le ha.1
  obtain ⟨b, rfl⟩ := Int.eq_ofNat_of_zero_le hb.1
  obtain ⟨c, rfl⟩ := Int.eq_ofNat_of_zero_le hc.1
  obtain ⟨d, rfl⟩ := Int.eq_ofNat_of_zero_le hd.1
  have e1 := Nat.two_pow_add_eq_or_of_lt (i := 24) (b := b * 65536) (by omega) a
  have e2 := Nat.two_pow_add_eq_or_of_lt (i := 16) (b := c * 256) (by omega) (a * 256 + b)
  have e3 := Nat.two_pow_add_eq_or_of_lt (i := 8) (b := d) (by omega) (a * 65536 + b * 256 + c)
  have g1 : Go.bits .or .u32 ((a : Int) * 16777216) ((b : Int) * 65536) = ((a * 16777216 + b * 65536 : Nat) : Int) := by
    have := bits_or_u32_nat (a * 16777216) (b * 65536) (by omega) (by omega)
    rw [show (2 : Nat) ^ 24 * a = a * 16777216 by omega] at e1
    rw [← e1] at this
    rw [Int.natCast_mul, Int.natCast_mul] at this
    exact this
  have g2 : Go.bits .or .u32 ((a * 16777216 + b * 65536 : Nat) : Int) ((c : Int) * 256) = ((a * 16777216 + b * 65536 + c * 256 : Nat) : Int) := by
    have := bits_or_u32_nat (a * 16777216 + b * 65536) (c * 256) (by omega) (by omega)
    rw [show (2 : Nat) ^ 16 * (a * 256 + b) = a * 16777216 + b * 65536 by omega] at e2
    rw [← e2] at this
    rw [Int.natCast_mul c 256] at this
    exact this
  have g3 : Go.bits .or .u32 ((a * 16777216 + b * 65536 + c * 256 : Nat) : Int) (d : Int) = ((a * 16777216 + b * 65536 + c * 256 + d : Nat) : Int) := by
    have := bits_or_u32_nat (a * 16777216 + b * 65536 + c * 256) d (by omega) (by omega)
    rw [show (2 : Nat) ^ 8 * (a * 65536 + b * 256 + c) = a * 16777216 + b * 65536 + c * 256 by omega] at e3
    rw [← e3] at this
    exact this
  rw [g1, g2, g3]
  rw [Int.natCast_add, Int.natCast_add, Int.natCast_add, Int.natCast_mul, Int.natCast_mul, Int.natCast_mul]
  rfl
theorem be32_sum (b : List Int) (t : Nat) (h : ∀ i : Int, 0 ≤ rd b i ∧ rd b i < 256) :
    be32 b t = rd b (4 * (t : Int)) * 16777216 + rd b (4 * (t : Int) + 1) * 65536 + rd b (4 * (t : Int) + 2) * 256 + rd b (4 * (t : Int) + 3) := by
  have h0 := h (4 * (t : Int))
  have h1 := h (4 * (t : Int) + 1)
  have h2 := h (4 * (t : Int) + 2)
  have h3 := h (4 * (t : Int) + 3)
  unfold be32
  generalize rd b (4 * (t : Int)) = a at *
  generalize rd b (4 * (t : Int) + 1) = b1 at *
  generalize rd b (4 * (t : Int) + 2) = c at *
  generalize rd b (4 * (t : Int) + 3) = d at *
  rw [show a % 4294967296 * 16777216 % 4294967296 = a * 16777216 by omega, show b1 % 4294967296 * 65536 % 4294967296 = b1 * 65536 by omega, show c % 4294967296 * 256 % 4294967296 = c * 256 by omega, show d % 4294967296 = d by omega]
  exact or_four a b1 c d h0 h1 h2 h3
theorem words_l1 (b : List Int) : ∀ (t n k : Nat), t + n = 64 → 16 ≤ t → n < k → Rwords.roadsteadref03_words.l1 k (sched b t) t = some (sched b 64)
  | t, 0, k + 1, h, _, _ => by
    obtain rfl : t = 64 := by omega
    rw [Rwords.roadsteadref03_words.l1, if_neg (by decide)]
  | t, n + 1, k + 1, h, h16, hk => by
    have hl := sched_length b t
    have ih := words_l1 b (t + 1) n k (by omega) (by omega) (by omega)
    rw [sched] at ih
    have hn : nextI b (sched b t) t = mixI (sched b t) t := by unfold nextI; rw [if_neg (by omega)]
    rw [hn] at ih
    clear hn
    generalize sched b t = v at hl ih ⊢
    have e : wrap64 ((t : Int) + 1) = ((t + 1 : Nat) : Int) := by unfold wrap64; omega
    have e15 : wrap64 ((t : Int) - 15) = ((t - 15 : Nat) : Int) := by unfold wrap64; omega
    have e2 : wrap64 ((t : Int) - 2) = ((t - 2 : Nat) : Int) := by unfold wrap64; omega
    have e16 : wrap64 ((t : Int) - 16) = ((t - 16 : Nat) : Int) := by unfold wrap64; omega
    have e7 : wrap64 ((t : Int) - 7) = ((t - 7 : Nat) : Int) := by unfold wrap64; omega
    rw [Rwords.roadsteadref03_words.l1, e15, e2, e16, e7, e, if_pos (by omega), if_pos (by omega), if_pos (by omega), if_pos (by omega), if_pos (by omega), if_pos (by omega), if_pos (by omega), if_pos (by omega), if_pos (by omega), turn_words, turn7, Option.bind_some, turn_words, turn18, Option.bind_some, turn_words, turn17, Option.bind_some, turn_words, turn19, Option.bind_some, if_pos (by omega), ← ih]
    congr 3
    unfold mixI
    omega
theorem words_l0 (b : List Int) (hb : b.length = 64) (hr : ∀ i : Int, 0 ≤ rd b i ∧ rd b i < 256) : ∀ (t n k : Nat), t + n = 16 → n + 50 < k → Rwords.roadsteadref03_words.l0 k b (sched b t) t = some (sched b 64)
  | t, 0, k + 1, h, _ => by
    obtain rfl : t = 16 := by omega
    rw [Rwords.roadsteadref03_words.l0, if_neg (by decide)]
    exact words_l1 b 16 48 k (by omega) (by omega) (by omega)
  | t, n + 1, k + 1, h, hk => by
    have hl := sched_length b t
    have ih := words_l0 b hb hr (t + 1) n k (by omega) (by omega)
    rw [sched] at ih
    have hn : nextI b (sched b t) t = be32 b t := by unfold nextI; rw [if_pos (by omega)]
    rw [hn, be32_sum b t hr] at ih
    clear hn
    generalize sched b t = v at hl ih ⊢
    have e : wrap64 ((t : Int) + 1) = ((t + 1 : Nat) : Int) := by unfold wrap64; omega
    have e4 : wrap64 (4 * (t : Int)) = 4 * (t : Int) := by unfold wrap64; omega
    have e41 : wrap64 (4 * (t : Int) + 1) = 4 * (t : Int) + 1 := by unfold wrap64; omega
    have e42 : wrap64 (4 * (t : Int) + 2) = 4 * (t : Int) + 2 := by unfold wrap64; omega
    have e43 : wrap64 (4 * (t : Int) + 3) = 4 * (t : Int) + 3 := by unfold wrap64; omega
    rw [Rwords.roadsteadref03_words.l0, e4, e41, e42, e43, e, if_pos (by omega), if_pos (by omega), if_pos (by omega), if_pos (by omega), if_pos (by omega), if_pos (by omega), if_pos (by omega), if_pos (by omega), if_pos (by omega), if_pos (by omega), ← ih]
    have h0 := hr (4 * (t : Int))
    have h1 := hr (4 * (t : Int) + 1)
    have h2 := hr (4 * (t : Int) + 2)
    have h3 := hr (4 * (t : Int) + 3)
    congr 3
    omega
theorem words_pure (b : List Int) (hb : b.length = 64) (hr : ∀ i : Int, 0 ≤ rd b i ∧ rd b i < 256) : Rwords.roadsteadref03_words.f 100 b = some (sched b 64) :=
  words_l0 b hb hr 0 16 100 (by omega) (by omega)
theorem step_pure (s b : List Int) (hs : s.length = 8) : Rblock.roadsteadref03_block.f 100 s (sched b 64) = some (addB s b) := block_pure s (sched b 64) hs (sched_length b 64)
theorem lenB_length (n i : Nat) : (lenB n i).length = i := by simp [lenB]
theorem lenB_succ (n i : Nat) : lenB n i ++ [8 * (n : Int) / 2 ^ (56 - 8 * i) % 256] = lenB n (i + 1) := by simp [lenB, List.range_succ]
theorem pad_l1 (m : Nat) (P : List Int) (hP : P.length ≤ 1099511628000) : ∀ (i n k : Nat), i + n = 8 → n < k → Rpadded.roadsteadref03_padded.l1 k (P ++ lenB m i) (8 * (m : Int)) i = some (P ++ lenB m 8)
  | i, 0, k + 1, h, _ => by
    obtain rfl : i = 8 := by omega
    rw [Rpadded.roadsteadref03_padded.l1, if_neg (by decide)]
  | i, n + 1, k + 1, h, hk => by
    have ih := pad_l1 m P hP (i + 1) n k (by omega) (by omega)
    have e : wrap64 ((i : Int) + 1) = ((i + 1 : Nat) : Int) := by unfold wrap64; omega
    have e8 : wrap64 (8 * (i : Int)) = 8 * (i : Int) := by unfold wrap64; omega
    have e56 : wrap64 (56 - 8 * (i : Int)) = ((56 - 8 * i : Nat) : Int) := by unfold wrap64; omega
    have eu : IntKind.u64.wrap ((56 - 8 * i : Nat) : Int) = ((56 - 8 * i : Nat) : Int) := by rw [IntKind.wrap_u64]; omega
    have hl : (P ++ lenB m i).length = P.length + i := by rw [List.length_append, lenB_length]
    have hs : shr .i64 (8 * (m : Int)) ((56 - 8 * i : Nat) : Int) = 8 * (m : Int) / 2 ^ (56 - 8 * i) := by
      unfold shr
      rw [Int.toNat_natCast, Nat.min_eq_left (by show 56 - 8 * i ≤ 64; omega)]
    rw [Rpadded.roadsteadref03_padded.l1, if_pos (by omega), e8, e56, eu, if_pos (by omega), if_pos (by omega), e, hs, List.append_assoc, lenB_succ]
    exact ih
theorem pad_l0 (l : List Int) (hl : l.length ≤ 1099511627776) : ∀ (j n k : Nat), j + n = zerosOf (l.length + 1) → n + 20 < k → Rpadded.roadsteadref03_padded.l0 k l (l ++ [128] ++ List.replicate j 0) = some (padB l)
  | j, 0, k + 1, h, hk => by
    obtain rfl : j = zerosOf (l.length + 1) := by omega
    have hz : zerosOf (l.length + 1) < 64 := by unfold zerosOf; omega
    have hlen : (l ++ [128] ++ List.replicate (zerosOf (l.length + 1)) 0 : List Int).length = l.length + 1 + zerosOf (l.length + 1) := by
      simp only [List.length_append, List.length_replicate, List.length_cons, List.length_nil]; try omega
    have e : wrap64 (8 * (l.length : Int)) = 8 * (l.length : Int) := by unfold wrap64; omega
    rw [Rpadded.roadsteadref03_padded.l0, hlen, if_pos (by unfold zerosOf; omega), e]
    have := pad_l1 l.length (l ++ [128] ++ List.replicate (zerosOf (l.length + 1)) 0) (by omega) 0 8 k (by omega) (by omega)
    simpa [lenB, padB] using this
  | j, n + 1, k + 1, h, hk => by
    have hlen : (l ++ [128] ++ List.replicate j 0 : List Int).length = l.length + 1 + j := by
      simp only [List.length_append, List.length_replicate, List.length_cons, List.length_nil]; try omega
    have ih := pad_l0 l hl (j + 1) n k (by omega) (by omega)
    have hz : zerosOf (l.length + 1) < 64 := by unfold zerosOf; omega
    rw [Rpadded.roadsteadref03_padded.l0, hlen, if_neg (by unfold zerosOf at h; omega), if_pos (by omega), List.append_assoc, ← List.replicate_succ']
    exact ih
theorem padded_pure (l : List Int) (hl : l.length ≤ 1099511627776) : Rpadded.roadsteadref03_padded.f 100 l = some (padB l) := by
  unfold Rpadded.roadsteadref03_padded.f
  have hz : zerosOf (l.length + 1) < 64 := by unfold zerosOf; omega
  rw [if_pos (by simp; omega), Option.bind_some, List.nil_append, if_pos (by omega)]
  have := pad_l0 l hl 0 (zerosOf (l.length + 1)) 100 (by omega) (by omega)
  simpa using this
end Go.Proofs.YtpnlpbbnakplhaaDoor
