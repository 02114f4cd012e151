/- ChunkBurst: the law's walk. -/
import Derived.Test.YtpnlpbbnakplhaaDoorOrderPure
import Derived.Test.YtpnlpbbnakplhaaDoorCrcBits
/- ChunkBurst: the plain law. -/
namespace Go.Proofs.YtpnlpbbnakplhaaDoor
open Go.RowKit Go.Proofs.YtpnlpbbnakplhaaDoorW.PrintWords Go.Proofs.YtpnlpbbnakplhaaDoorW.PrintLast Go.Proofs.YtpnlpbbnakplhaaDoorW.PrintMore
set_option linter.unusedVariables false
theorem xor8_word {a b : Int} (ha : Byte a) (hb : Byte b) : ofI (Go.bits .xor .u8 a b) = ofI a ^^^ ofI b := by
  obtain ⟨ha0, ha1⟩ := ha
  obtain ⟨hb0, hb1⟩ := hb
  obtain ⟨m, rfl⟩ := Int.eq_ofNat_of_zero_le ha0
  obtain ⟨n, rfl⟩ := Int.eq_ofNat_of_zero_le hb0
  unfold bits ofI
  rw [IntKind.wrap_u8]
  show BitVec.ofInt 32 (((BitVec.ofInt 8 (m : Int) ^^^ BitVec.ofInt 8 (n : Int)).toNat : Int) % 256) = _
  have := (BitVec.ofInt 8 (m : Int) ^^^ BitVec.ofInt 8 (n : Int)).isLt
  rw [Int.emod_eq_of_lt (by omega) (by omega)]
  apply BitVec.eq_of_toNat_eq
  simp only [BitVec.ofInt_natCast, BitVec.toNat_xor, BitVec.toNat_ofNat]
  rw [Nat.mod_eq_of_lt (show m < 2 ^ 8 by omega), Nat.mod_eq_of_lt (show n < 2 ^ 8 by omega), Nat.mod_eq_of_lt (show m < 2 ^ 32 by omega), Nat.mod_eq_of_lt (show n < 2 ^ 32 by omega)]
  exact Nat.mod_eq_of_lt (Nat.lt_of_lt_of_le (Nat.xor_lt_two_pow (n := 8) (by omega) (by omega)) (by decide))
theorem one_bit : ∀ r : Nat, r < 8 → Byte (shl .u8 1 (r : Int)) ∧ ∀ m, m < 8 → (ofI (shl .u8 1 (r : Int))).getLsbD m = decide (m = r) := by
  unfold Byte
  decide +kernel
theorem bit_set (x : List Int) (hx : Bytes x) (j r : Nat) (hj : j < x.length) (hr : r < 8) (k : Nat) :
    bitOf (x.set j (Go.bits .xor .u8 (rd x (j : Int)) (shl .u8 1 (r : Int)))) k = (bitOf x k ^^ decide (k = 8 * j + r)) := by
  have hrd : rd x (j : Int) = x[j] := by simp [rd, hj]
  obtain ⟨h1, h2⟩ := one_bit r hr
  unfold bitOf
  by_cases he : k / 8 = j
  · rw [he]
    have hs : (x.set j (Go.bits .xor .u8 (rd x (j : Int)) (shl .u8 1 (r : Int)))).getD j 0 = Go.bits .xor .u8 (rd x (j : Int)) (shl .u8 1 (r : Int)) := by simp [List.getD, hj]
    have hg : x.getD j 0 = x[j] := by simp [List.getD, hj]
    rw [hs, hg, hrd, xor8_word (hx _ (List.getElem_mem hj)) h1, BitVec.getLsbD_xor, h2 _ (Nat.mod_lt _ (by decide))]
    congr 1
    rw [decide_eq_decide]
    omega
  · have hs : (x.set j (Go.bits .xor .u8 (rd x (j : Int)) (shl .u8 1 (r : Int)))).getD (k / 8) 0 = x.getD (k / 8) 0 := by
      simp only [List.getD, List.getElem?_set]
      rw [if_neg (fun e => he e.symm)]
    rw [hs, decide_eq_false (by omega)]
    simp
theorem same_bits (x y : List Int) (hx : Bytes x) (hy : Bytes y) (hl : x.length = y.length) (h : ∀ k, k < 8 * y.length → bitOf x k = bitOf y k) : x = y := by
  apply List.ext_getElem hl
  intro j h1 h2
  have hw : ofI x[j] = ofI y[j] := by
    have b1 := byte_word (hx _ (List.getElem_mem h1))
    have b2 := byte_word (hy _ (List.getElem_mem h2))
    apply BitVec.eq_of_getLsbD_eq
    intro m hm
    by_cases h8 : m < 8
    · have := h (8 * j + m) (by omega)
      unfold bitOf at this
      rw [show (8 * j + m) / 8 = j by omega, show (8 * j + m) % 8 = m by omega] at this
      simpa [List.getD, h1, h2] using this
    · have k1 := congrArg (fun z : W32 => z.getLsbD (m - 8)) b1
      have k2 := congrArg (fun z : W32 => z.getLsbD (m - 8)) b2
      simp only [BitVec.getLsbD_ushiftRight, show 8 + (m - 8) = m by omega] at k1 k2
      rw [k1, k2]
  have r1 := hx _ (List.getElem_mem h1)
  have r2 := hy _ (List.getElem_mem h2)
  rw [← toI_ofI x[j] r1.1 (by have := r1.2; omega), hw, toI_ofI _ r2.1 (by have := r2.2; omega)]
theorem bit_take (l : List Int) (n k : Nat) (h : k < 8 * n) : bitOf (l.take n) k = bitOf l k := by
  unfold bitOf
  rw [show (l.take n).getD (k / 8) 0 = l.getD (k / 8) 0 by simp [List.getD, show k / 8 < n by omega]]
theorem bit_drop (l : List Int) (n k : Nat) : bitOf (l.drop n) k = bitOf l (8 * n + k) := by
  unfold bitOf
  rw [show (8 * n + k) / 8 = n + k / 8 by omega, show (8 * n + k) % 8 = k % 8 by omega, show (l.drop n).getD (k / 8) 0 = l.getD (n + k / 8) 0 by simp [List.getD, List.getElem?_drop]]
theorem sumI_eq (l : List Int) (hl : Bytes l) : sumI l = toI (sumB l) := by
  unfold sumI sumB moreB
  rw [show bits .xor .u32 4294967295 0 = toI ones from by decide, crcRun_eq l hl, bits_xor32, ofI_toI, show ones ^^^ (0 : W32) = ones from BitVec.xor_zero, show ofI 4294967295 = ones from by decide]
theorem seal_eq (l : List Int) (hl : Bytes l) : ChunkPure.sealL Z l = sealB l := by
  unfold ChunkPure.sealL sealB
  show l ++ le4 (sumI l) = _
  rw [sumI_eq l hl]
/-- What is right and differs from a sealed row within 32 bits is that row. -/
theorem burst_right (c p2 : List Int) (hc : Bytes c) (h2 : Bytes p2) (hl : p2.length = (ChunkPure.sealL Z c).length) (q : Nat)
    (hd : ∀ k, k < 8 * p2.length → bitOf (ChunkPure.sealL Z c) k ≠ bitOf p2 k → q ≤ k ∧ k < q + 32) (hr : ChunkPure.Right Z p2) : p2 = ChunkPure.sealL Z c := by
  obtain ⟨h4, hs⟩ := hr
  have hb2 := bytes_take h2 (p2.length - 4)
  have he : p2 = sealB (p2.take (p2.length - 4)) := by
    rw [← seal_eq _ hb2]
    unfold ChunkPure.sealL
    rw [hs, List.take_append_drop]
  have hsc := seal_eq c hc
  rw [hsc] at hl hd ⊢
  have hlen : c.length = (p2.take (p2.length - 4)).length := by rw [sealB_length] at hl; rw [List.length_take]; omega
  have ha := sealed_alike c (p2.take (p2.length - 4)) hc hb2 hlen q (fun k hk hne => by rw [← he] at hne; exact hd k (by omega) hne)
  refine same_bits _ _ h2 (sealB_bytes hc) hl (fun k hk => ?_)
  have := ha k hk
  rw [← he] at this
  exact this.symm
theorem piece_sealed (d : List Int) (hd : d.length ≤ 699) (hb : Bytes d) (i : Nat) (h : i + 1 < (ChunkPure.pieces Z d).length) : ∃ c, Bytes c ∧ pieceOf d i = ChunkPure.sealL Z c := by
  have hc := ChunkPure.pieces_count Z d
  cases i with
  | zero => exact ⟨ChunkPure.mark ++ ChunkPure.be4 d.length, bytes_append mark_bytes (by intro c hc; simp [ChunkPure.be4] at hc; unfold Byte; omega), rfl⟩
  | succ j =>
    refine ⟨((j / 256 : Nat) : Int) :: ((j % 256 : Nat) : Int) :: ((((d.drop (100 * j)).take 100).length : Nat) : Int) :: (d.drop (100 * j)).take 100, ?_, ?_⟩
    · have hl : ((d.drop (100 * j)).take 100).length ≤ 100 := by rw [List.length_take]; omega
      exact bytes_cons (by unfold Byte; omega) (bytes_cons (by unfold Byte; omega) (bytes_cons (by unfold Byte; omega) (bytes_take (bytes_drop hb _) _)))
    · unfold pieceOf
      rw [if_pos (by omega), Int.toNat_natCast, pieces_part d j (by omega)]
      rfl
/-- Bits within 32 in a row of one piece but the last: the same archive, or none. -/
theorem burst_law (d : List Int) (hd : d.length ≤ 699) (hb : Bytes d) (hw : Bytes (ChunkPure.wrap Z d)) (i : Nat) (hi : i + 1 < (ChunkPure.pieces Z d).length) (x : List Int) (hx : Bytes x) (hl : x.length = (ChunkPure.wrap Z d).length) (q : Nat)
    (hbit : ∀ k, k < 8 * (ChunkPure.wrap Z d).length → bitOf x k ≠ bitOf (ChunkPure.wrap Z d) k →
      8 * ((ChunkPure.pieces Z d).take i).flatten.length ≤ k ∧ k < 8 * (((ChunkPure.pieces Z d).take i).flatten.length + (pieceOf d i).length) ∧ 8 * ((ChunkPure.pieces Z d).take i).flatten.length + q ≤ k ∧ k < 8 * ((ChunkPure.pieces Z d).take i).flatten.length + q + 32) :
    x = ChunkPure.wrap Z d ∨ ∃ e, ChunkPure.unwrap Z x = .error e := by
  have hpi := (piece_at d i (by omega)).2
  have hwd : ChunkPure.wrap Z d = ((ChunkPure.pieces Z d).take i).flatten ++ pieceOf d i ++ ((ChunkPure.pieces Z d).drop (i + 1)).flatten := by
    rw [← hpi, ← List.flatten_append, List.take_append_drop, ChunkPure.pieces_flatten]
  obtain ⟨c, hc, hpc⟩ := piece_sealed d hd hb i hi
  have hT : ∃ T, T = ((ChunkPure.pieces Z d).take i).flatten := ⟨_, rfl⟩
  obtain ⟨T, hT⟩ := hT
  obtain ⟨R, hR⟩ : ∃ R, R = ((ChunkPure.pieces Z d).drop (i + 1)).flatten := ⟨_, rfl⟩
  obtain ⟨p, hp⟩ : ∃ p, p = pieceOf d i := ⟨_, rfl⟩
  obtain ⟨b, hbw⟩ : ∃ b, b = ChunkPure.wrap Z d := ⟨_, rfl⟩
  rw [← hT, ← hp] at hbit
  rw [← hbw] at hbit hl hw
  rw [← hT, ← hp, ← hR, ← hbw] at hwd
  rw [← hbw]
  rw [← hp] at hpc
  have hlb : b.length = T.length + p.length + R.length := by rw [hwd, List.length_append, List.length_append]
  have t1 : b.take T.length = T := by rw [hwd, List.append_assoc, List.take_left]
  have t2 : (b.drop T.length).take p.length = p := by rw [hwd, List.append_assoc, List.drop_left, List.take_left]
  have t3 : b.drop (T.length + p.length) = R := by rw [hwd, ← List.length_append, List.drop_left]
  have x1 : x.take T.length = T := by
    refine Eq.trans ?_ t1
    refine same_bits _ _ (bytes_take hx _) (bytes_take hw _) (by rw [List.length_take, List.length_take, hl]) (fun k hk => ?_)
    rw [List.length_take] at hk
    rw [bit_take _ _ _ (by omega), bit_take _ _ _ (by omega)]
    by_cases e : bitOf x k = bitOf b k
    · exact e
    · have := hbit k (by omega) e; omega
  have x3 : x.drop (T.length + p.length) = R := by
    rw [← t3]
    refine same_bits _ _ (bytes_drop hx _) (bytes_drop hw _) (by rw [List.length_drop, List.length_drop]; omega) (fun k hk => ?_)
    rw [List.length_drop] at hk
    rw [bit_drop, bit_drop]
    by_cases e : bitOf x (8 * (T.length + p.length) + k) = bitOf b (8 * (T.length + p.length) + k)
    · exact e
    · have := hbit _ (by omega) e; omega
  obtain ⟨p2, hp2⟩ : ∃ p2, p2 = (x.drop T.length).take p.length := ⟨_, rfl⟩
  have hlp2 : p2.length = p.length := by rw [hp2, List.length_take, List.length_drop]; omega
  have hxe : x = T ++ (p2 ++ R) := by
    have e1 := List.take_append_drop T.length x
    have e2 := List.take_append_drop p.length (x.drop T.length)
    rw [List.drop_drop, x3, ← hp2] at e2
    rw [x1, ← e2] at e1
    exact e1.symm
  by_cases he : p2 = p
  · exact .inl (by rw [hxe, he, hwd, List.append_assoc])
  right
  have hb2 : Bytes p2 := by rw [hp2]; exact bytes_take (bytes_drop hx _) _
  have hnr : ¬ ChunkPure.Right Z p2 := by
    intro hr
    apply he
    rw [hpc]
    refine burst_right c p2 hc hb2 (by rw [hlp2, hpc]) q (fun k hk hne => ?_) hr
    rw [← hpc] at hne
    have k1 : bitOf p k = bitOf b (8 * T.length + k) := by rw [← t2, bit_take _ _ _ (by omega), bit_drop]
    have k2 : bitOf p2 k = bitOf x (8 * T.length + k) := by rw [hp2, bit_take _ _ _ (by omega), bit_drop]
    rw [k1, k2] at hne
    have := hbit (8 * T.length + k) (by omega) (fun e => hne e.symm)
    omega
  have hcn := ChunkPure.pieces_count Z d
  have hpn := ChunkPure.parts_count Z d.length 0 d (Nat.le_refl _)
  cases i with
  | zero =>
    have hT0 : T = [] := by rw [hT]; rfl
    have hp0 : p = ChunkPure.head Z d.length := by rw [hp]; rfl
    rw [hxe, hT0, List.nil_append]
    exact ⟨12, ChunkPure.unwrap_bad_head Z p2 R (by rw [hlp2, hp0, ChunkPure.head_length]) hnr⟩
  | succ j =>
    have hTj : T = ChunkPure.head Z d.length ++ ((ChunkPure.parts Z d.length 0 d).take j).flatten := by
      rw [hT]
      unfold ChunkPure.pieces
      rw [List.take_succ_cons, List.flatten_cons, List.take_append_of_le_length (by omega)]
    have hpj : (ChunkPure.parts Z d.length 0 d)[j]'(by omega) = p := by
      have h1 := ChunkPure.parts_get Z d.length 0 d j (Nat.le_refl _) (by omega)
      rw [List.getElem?_eq_getElem (by omega)] at h1
      injection h1 with h1
      rw [h1, hp, Nat.zero_add]
      unfold pieceOf
      rw [if_pos (by omega), Int.toNat_natCast, pieces_part d j (by omega)]
      rfl
    have hsp := ChunkPure.split_at (ChunkPure.parts Z d.length 0 d) j (by omega)
    rw [hpj] at hsp
    rw [hxe, hTj, List.append_assoc]
    exact ChunkPure.unwrap_bad_part Z d (by omega) _ _ p p2 R hsp hlp2 hnr
/-- What holds of the turned row at the head of round i: the bits that are others lie in the piece, and among those turned so far. -/
structure BInv (b : List Int) (F L q i : Nat) (x : List Int) : Prop where
  len : x.length = b.length
  bytes : Bytes x
  bit : ∀ k, k < 8 * b.length → bitOf x k ≠ bitOf b k → 8 * F ≤ k ∧ k < 8 * (F + L) ∧ 8 * F + q ≤ k ∧ k < 8 * F + q + i
theorem binv_start (b : List Int) (F L q : Nat) (hb : Bytes b) : BInv b F L q 0 b := ⟨rfl, hb, fun _ _ h => absurd rfl h⟩
theorem binv_keep {b : List Int} {F L q i : Nat} {x : List Int} (h : BInv b F L q i x) : BInv b F L q (i + 1) x :=
  ⟨h.len, h.bytes, fun k hk hne => by have := h.bit k hk hne; omega⟩
theorem binv_turn {b : List Int} {F L q i : Nat} {x : List Int} (h : BInv b F L q i x) (hlt : q + i < 8 * L) (hFL : F + L ≤ b.length) :
    BInv b F L q (i + 1) (x.set (F + (q + i) / 8) (Go.bits .xor .u8 (rd x ((F + (q + i) / 8 : Nat) : Int)) (shl .u8 1 (((q + i) % 8 : Nat) : Int)))) := by
  have hl := h.len
  refine ⟨by rw [List.length_set]; exact hl, bytes_setAt h.bytes _ (bits_u8 _ _ _), fun k hk hne => ?_⟩
  rw [bit_set x h.bytes _ _ (by omega) (Nat.mod_lt _ (by decide))] at hne
  by_cases e : k = 8 * (F + (q + i) / 8) + (q + i) % 8
  · omega
  · rw [decide_eq_false e, Bool.xor_false] at hne
    have := h.bit k hk hne
    omega
def bitAt (a : Int) (i : Nat) : Bool := decide (a / 2 ^ i % 2 = 1)
theorem shr_bit (a : Int) (h0 : 0 ≤ a) (i : Nat) (hi : i < 32) : (Int.tmod (shr .u32 a (IntKind.u64.wrap (i : Int))) 2 = 1) ↔ bitAt a i = true := by
  have hw : IntKind.u64.wrap (i : Int) = (i : Int) := by
    simp [IntKind.wrap, IntKind.bits, IntKind.signed]
    omega
  unfold shr bitAt
  rw [hw, Int.toNat_natCast, show min i IntKind.u32.bits = i by simp [IntKind.bits]; omega, Int.tmod_eq_emod_of_nonneg (Int.ediv_nonneg h0 (by exact_mod_cast Nat.zero_le (2 ^ i))), decide_eq_true_iff]
/-- What a round of the turning loop computes with. -/
theorem burst_nums {q j m L F B : Nat} (hm : m = q + j) (hl : m < 8 * L) (hf : F + L ≤ B) (hb : B ≤ 1000) :
    wrap64 ((m : Int) / 8) = ((m / 8 : Nat) : Int) ∧ wrap64 ((F : Int) + (m : Int) / 8) = ((F + m / 8 : Nat) : Int) ∧ wrap64 ((m : Int) % 8) = ((m % 8 : Nat) : Int) ∧ F + m / 8 < B ∧ (m : Int) % 8 = ((m % 8 : Nat) : Int) := by
  refine ⟨?_, ?_, ?_, by omega, by omega⟩
  · rw [wrap_small _ (by omega) (by omega)]; omega
  · rw [wrap_small _ (by omega) (by omega)]; omega
  · rw [wrap_small _ (by omega) (by omega)]; omega
theorem burst_cut {x2 : Int} {B : Nat} (h : 0 ≤ x2 ∧ x2 < 65536) (hB : 44 ≤ B ∧ B ≤ 1000) : ∃ u : Nat, x2 % (B : Int) = u ∧ u < B ∧ ¬ (B : Int) = 0 :=
  ⟨(x2 % (B : Int)).toNat, by have := Int.emod_nonneg x2 (show (B : Int) ≠ 0 by omega); omega, by have := Int.emod_lt_of_pos x2 (show 0 < (B : Int) by omega); have := Int.emod_nonneg x2 (show (B : Int) ≠ 0 by omega); omega, by omega⟩
/-- What the law compares, when all bits are turned. -/
theorem burst_end_law (d : List Int) (hd : d.length ≤ 699) (hb : Bytes d) (hw : Bytes (ChunkPure.wrap Z d)) (i : Nat) (hi : i + 1 < (ChunkPure.pieces Z d).length) (x : List Int) (hx : Bytes x) (q : Nat)
    (h : BInv (ChunkPure.wrap Z d) ((ChunkPure.pieces Z d).take i).flatten.length (pieceOf d i).length q 32 x) : ((errU (ChunkPure.unwrap Z x) : Int) == 0) = ((strOfNums x).toList == (strOfNums (ChunkPure.wrap Z d)).toList) := by
  rw [str_beq hx hw]
  rcases burst_law d hd hb hw i hi x hx h.len q h.bit with e | ⟨e, he⟩
  · subst e
    rw [ChunkPure.unwrap_wrap Z d (by omega)]
    simp [errU]
  · have h0 := ChunkPure.unwrap_errors Z x e he
    have hne : ¬ x = ChunkPure.wrap Z d := by
      intro hh
      rw [hh, ChunkPure.unwrap_wrap Z d (by omega)] at he
      cases he
    rw [he, decide_eq_false hne, beq_eq_false_iff_ne]
    show (e : Int) ≠ 0
    omega
theorem burst_cut_law (b : List Int) (hb : b.length ≤ 699) (m : Nat) (h : m < (ChunkPure.wrap Z b).length) : ((errU (ChunkPure.unwrap Z ((ChunkPure.wrap Z b).take m)) : Int) == 0) = false := by
  obtain ⟨e, he⟩ := ChunkPure.unwrap_cut Z b m h
  have h0 := ChunkPure.unwrap_errors Z _ e he
  rw [he, beq_eq_false_iff_ne]
  show (e : Int) ≠ 0
  omega
theorem burst_more_law (b : List Int) (hb : b.length ≤ 699) (x : Int) : errU (ChunkPure.unwrap Z (ChunkPure.wrap Z b ++ [x])) = 11 := by
  rw [ChunkPure.unwrap_more Z b x (by omega)]
  rfl
end Go.Proofs.YtpnlpbbnakplhaaDoor
namespace Go.Proofs.YtpnlpbbnakplhaaDoor
open Go.RowKit Go.Proofs.YtpnlpbbnakplhaaDoorW.PrintWords Go.Proofs.YtpnlpbbnakplhaaDoorW.PrintLast Go.Proofs.YtpnlpbbnakplhaaDoorW.PrintMore
set_option linter.unusedVariables false
/-- How many bytes lie ahead of piece i. -/
def aheadOf (d : List Int) (i : Nat) : Nat := ((ChunkPure.pieces Z d).take i).flatten.length
/-- What is left to prove, held apart from what `assumption` sees. -/
structure Held_ (P : Prop) : Prop where
  out : P
set_option maxRecDepth 100000 in
set_option maxHeartbeats 4000000 in
noncomputable def burst_c1 : { P : Prop × Prop // Held_ P.1 → Held_ P.2 → ∀ (A : Option Addr) (c : Nat) (l : List Int) (n x2 x3 x4 x5 : Int) (w : World) (hG : Glob w) (hl : l.length ≤ 140737488351232) (h0 : 0 ≤ n) (h1 : n < 65536) (h2 : 0 ≤ x2 ∧ x2 < 65536) (h3 : 0 ≤ x3 ∧ x3 < 256) (h4 : 0 ≤ x4 ∧ x4 < 4294967296) (h5 : 0 ≤ x5 ∧ x5 < 256) (hr : Reads w A l) (hc : l.length ≤ c), Calls Tryd.prog 7 #[.slice A l.length c, .int .u16 n, .int .u16 x2, .int .u8 x3, .int .u32 x4, .int .u8 x5] w fun e w' => e = .returned (.bool true) ∧ Below w.heap.size w w' } := by
  refine ⟨(?ca, ?cb), ?main⟩
  case main =>
   intro hP_ hQ_ A c l n x2 x3 x4 x5 w hG hl h0 h1 h2 h3 h4 h5 hr hc
   obtain ⟨d, hdl, hdb, hdata⟩ := data_calls A c l n w hl h0 h1 hr hc
   have HG := Aside0.mk hG
   have HD := Aside0.mk hdata
   have HDB := Aside0.mk hdb
   have hwl : (ChunkPure.wrap Z d).length = 12 + d.length + 7 * ((d.length + 99) / 100) + 32 := ChunkPure.wrap_length Z d
   have hwl2 : 44 ≤ (ChunkPure.wrap Z d).length ∧ (ChunkPure.wrap Z d).length ≤ 1000 := by omega
   have HWL := Aside0.mk hwl2
   have HWB := Aside0.mk (bytes_wrap d hdb (by omega))
   obtain ⟨k, hk⟩ : ∃ k : Nat, k = (ChunkPure.pieces Z d).length := ⟨_, rfl⟩
   have hcd : countOf (d.length : Int) = (k : Int) := by rw [hk, ChunkPure.pieces_count]; unfold countOf; rw [if_pos (by omega)]; omega
   have hkl : 2 ≤ k ∧ k ≤ 10 := by rw [hk, ChunkPure.pieces_count]; omega
   have HK := Aside0.mk hk
   have HDL := Aside0.mk hdl
   clear hG hdata hwl hwl2 hr hk hdb
   have hkp : 0 < (k : Int) - 1 := by omega
   have e3 := Int.emod_nonneg x3 (show (k : Int) - 1 ≠ 0 by omega)
   have e3' := Int.emod_lt_of_pos x3 hkp
   obtain ⟨kk, hkk⟩ : ∃ a : Nat, x3 % ((k : Int) - 1) = a := ⟨(x3 % ((k : Int) - 1)).toNat, by omega⟩
   have hkk1 : kk + 1 < k := by omega
   have HKK := Aside0.mk hkk1
   have HKL := Aside0.mk hkl
   have hz1 : ¬ ((k : Int) - 1 = 0) := by omega
   obtain ⟨B, hB⟩ : ∃ B, B = (ChunkPure.wrap Z d).length := ⟨_, rfl⟩
   clear e3 e3' hkp
   go_enter Tryd.func7, Tryd.ntmps7
   go_wp2_with fail
   refine HD.out.mono ?_
   rintro e w1 ⟨v1, rfl, ho1, hb1⟩
   obtain ⟨A1, c1, rfl⟩ := Kd.R_slice ho1
   have hrd1 := Kd.R_reads' ho1
   have HB1 := Aside0.mk hb1
   go_wp2_with fail
   refine (chunk_Wrap_calls A1 c1 d w1 (HG.out.below hb1) hrd1.2.2 hrd1.2.1).mono ?_
   rintro e w2 ⟨v2, rfl, ho2, hb2⟩
   rw [wrapOf_short d (by omega)] at ho2
   obtain ⟨A2, c2, rfl⟩ := Kd.R_slice ho2
   have hrd2 := Kd.R_reads' ho2
   have HB2 := Aside0.mk (below_step HB1.out hb2)
   have HR1 := Aside0.mk (Kd.C_below hrd1.2.2 hb2)
   have HC1 := Aside0.mk hrd1.2.1
   have HC2 := Aside0.mk hrd2.2.1
   have HR2 := Aside0.mk hrd2.2.2
   clear hb1 ho1 hrd1 hb2 ho2 hrd2
   rw [← hB] at HR2 HC2 HWL ⊢
   have HBe := Aside0.mk hB
   clear hB
   go_wp2_with (go_at_call 16; refine (chunk_Pieces_calls _ _).mono ?_; rintro e wp ⟨rfl, rfl⟩)
   rw [hkk]
   clear hkk hz1 hcd hkk1
   go_loopw [16, 17] (fun v16 v17 wr => ∃ i : Nat, i ≤ kk ∧ v17 = .int .i64 i ∧ v16 = .int .i64 ((aheadOf d i : Nat) : Int) ∧ Aside0 (Below wp.heap.size wp wr)) (fun _ v17 _ => kk - (intOf v17).toNat)
   case atStart => exact ⟨0, by omega, rfl, rfl, ⟨Below.refl _ _⟩⟩
   case round =>
     obtain ⟨i, hi, rfl, rfl, HB⟩ := hrel
     have HRD := Aside0.mk (Kd.C_below HR1.out HB.out)
     have HBW := Aside0.mk (below_step HB2.out HB.out)
     by_cases hik : i = kk
     · subst hik
       have hpa := piece_at d i (by have := HKK.out; have := HK.out; omega)
       have hFB := take_length d (i + 1)
       rw [hpa.2, List.length_append, ← HBe.out] at hFB
       change aheadOf d i + _ ≤ B at hFB
       obtain ⟨F, hF⟩ : ∃ F, F = aheadOf d i := ⟨_, rfl⟩
       obtain ⟨L, hL⟩ : ∃ L, L = (pieceOf d i).length := ⟨_, rfl⟩
       have hpl := hpa.1
       rw [← hF, ← hL] at hFB
       rw [← hL] at hpl
       have hBl := HWL.out.2
       have hw1 : wrap64 ((F : Int) + (L : Int)) = (F : Int) + (L : Int) := wrap_small _ (by omega) (by omega)
       have hw2' : ¬ ((B : Int) < (F : Int) + (L : Int)) := Int.not_lt.2 (by exact_mod_cast hFB)
       have hw2 : decide ((B : Int) < (F : Int) + (L : Int)) = false := decide_eq_false hw2'
       clear hw2'
       have hl0 : ((L : Int) == 0) = false := by rw [beq_eq_false_iff_ne]; omega
       have HR1w := Aside0.mk (Kd.C_below HR1.out HB.out)
       have HR2w := Aside0.mk (Kd.C_below HR2.out HB.out)
       have HPC := Aside0.mk (chunk_Piece_calls A1 c1 d i wr (HG.out.below HBW.out) HRD.out HC1.out (by omega))
       rw [← hL] at HPC
       rw [← hF]
       have HF := Aside0.mk hF
       have HL := Aside0.mk hL
       have HFB := Aside0.mk hFB
       have HPL := Aside0.mk hpl
       clear hpa hFB hF hL hpl hBl
       go_wp2_with fail
       refine HPC.out.mono ?_
       rintro e w5 ⟨Av, cv, rfl, _, _, hb5⟩
       have HB5 := Aside0.mk (below_step HBW.out hb5)
       have HR25 := Aside0.mk (Kd.C_below HR2w.out hb5)
       clear hb5 HPC
       go_wp2_with ((with_reducible refine gate_builtin (b := .append) (xs := #[.tmp 67, .tmp 68]) rfl ?_); at_builtin; refine Kd.R_append_rows (Kd.int .u8) (w0 := w5) w5.heap.size rfl (.tmp 67) (.tmp 68) 22 5 (.int .u8 0) 1 rfl Tryd.underlying22 info5 rfl (by decide) (by omega) (.slice none 0 0) ([] : List Int) (ChunkPure.wrap Z d) A2 B c2 (fun _ => True) (fun _ => False) rfl rfl ?aO ?aR (fun _ _ h => h) (fun _ h => h.elim) ?aF ?aB ?aS ?aL ?_; (case aR => exact HR25.out); (case aB => exact (Below.refl _ _)); (case aF => exact (fun _ _ => trivial)); (case aO => exact Kd.R_nil _ _ _ _ _); (case aS => exact Nat.le_refl _); (case aL => have := HWL.out; have := HBe.out; simp; omega); intro v9 w9 ho9 hb9 hg9 hat9; have HO9 := Aside0.mk ho9; have HB9 := Aside0.mk hb9; clear ho9 hb9 hg9 hat9)
       have hbm := Int.emod_nonneg x2 (show (8 * (L : Int)) ≠ 0 by have := HPL.out; omega)
       have hbm2 := Int.emod_lt_of_pos x2 (show 0 < 8 * (L : Int) by have := HPL.out; omega)
       obtain ⟨q, hq⟩ : ∃ q : Nat, x2 % (8 * (L : Int)) = q := ⟨(x2 % (8 * (L : Int))).toNat, by omega⟩
       have HQ := Aside0.mk (show q < 8 * L by omega)
       have hw8 : wrap64 (8 * (L : Int)) = 8 * (L : Int) := by have := HFB.out; have := HWL.out; rw [wrap_small _ (by omega) (by omega)]
       have hz8 : ¬ (8 * (L : Int) = 0) := by have := HPL.out; omega
       clear hbm hbm2 hw1 hw2 hl0
       go_loopw [20] (fun v20 wr2 => ∃ (j : Nat) (xs : List Int), j ≤ 32 ∧ v20 = .int .i64 j ∧ Aside0 (BInv (ChunkPure.wrap Z d) F L q j xs) ∧ Aside0 (Row wr2 w5.heap.size (fun _ => True) v9 xs) ∧ Aside0 (Below w5.heap.size w5 wr2)) (fun v20 _ => 32 - (intOf v20).toNat)
       case atStart => exact ⟨0, _, Nat.zero_le _, rfl, ⟨binv_start _ F L q HWB.out⟩, HO9, HB9⟩
       case round =>
         obtain ⟨j, xs, hj, rfl, HBI, HO, HBX⟩ := hrel
         by_cases hj32 : j = 32
         · (rename_i zb_1 zb_2 zb_3 zb_4 zb_5 zb_6 zb_7 zb_8 zb_9 zb_10; revert A c l n x2 x3 x4 x5 w hl h0 h1 h2 h3 h4 h5 hc d hdl HG HD HDB HWB k hkl HK HDL HKL B HWL zb_1 w1 A1 c1 HB1 A2 c2 HC1 HC2 HBe wp HB2 HR1 HR2 zb_2 zb_3 u41 u42 u43 u44 u45 u46 u47 u48 u49 u50 u51 i HB HRD HBW HKK hi F L HR1w HR2w HF HL HFB HPL zb_4 zb_5 zb_6 w5 Av cv zb_7 zb_8 HB5 HR25 v9 w9 HO9 HB9 zb_9 zb_10 q hq HQ hw8 hz8 wr u21 u70 u71 u72 u73 u74 u75 u76 u77 u78 u79 u80 u81 u82 u83 u84 u85 u86 u87 u88 u89 u90 u91 u92 u93 u94 u95 u96 u97 u98 u99 u100 u101 u102 u103 u104 u105 u106 u107 j xs hj HBI HO HBX hj32; exact hQ_.out)
         · have hlt' : (j : Int) < 32 := Int.ofNat_lt.2 (Nat.lt_of_le_of_ne hj hj32)
           have hlt : decide ((j : Int) < 32) = true := decide_eq_true hlt'
           clear hlt'
           have hj31 : j < 32 := Nat.lt_of_le_of_ne hj hj32
           have HBl := HWL.out
           have HFl := HFB.out
           have hQ := HQ.out
           obtain ⟨m, hm⟩ : ∃ m, m = q + j := ⟨_, rfl⟩
           have hwm : wrap64 ((q : Int) + (j : Int)) = (m : Int) := by rw [wrap_small _ (by omega) (by omega)]; omega
           have hwj : wrap64 ((j : Int) + 1) = ((j + 1 : Nat) : Int) := by rw [wrap_small _ (by omega) (by omega)]; omega
           have HWJ := Aside0.mk hwj
           have HM := Aside0.mk hm
           clear hwj hm
           by_cases hml : m < 8 * L
           · have hd1 : (m : Int) < 8 * (L : Int) := by omega
             by_cases hbt : (x4 / 2 ^ j).tmod 2 = 1
             · have hbt2 : ((x4 / 2 ^ j).tmod 2 == 1) = true := beq_iff_eq.2 hbt
               have HML := Aside0.mk hml
               clear HBl HFl hQ hml
               (rename_i za_1 za_2 za_3 za_4 za_5 za_6 za_7 za_8 za_9 za_10; revert A c l n x2 x3 x4 x5 w hl h0 h1 h2 h3 h4 h5 hc d hdl HG HD HDB HWB k hkl HK HDL HKL B HWL za_1 w1 A1 c1 HB1 A2 c2 HC1 HC2 HBe wp HB2 HR1 HR2 za_2 za_3 u41 u42 u43 u44 u45 u46 u47 u48 u49 u50 u51 i HB HRD HBW HKK hi F L HR1w HR2w HF HL HFB HPL za_4 za_5 za_6 w5 Av cv za_7 za_8 HB5 HR25 v9 w9 HO9 HB9 za_9 za_10 q hq HQ hw8 hz8 wr u21 u70 u71 u72 u73 u74 u75 u76 u77 u78 u79 u80 u81 u82 u83 u84 u85 u86 u87 u88 u89 u90 u91 u92 u93 u94 u95 u96 u97 u98 u99 u100 u101 u102 u103 u104 u105 u106 u107 j xs hj HBI HO HBX hj32 hlt hj31 m hwm HWJ HM hd1 hbt hbt2 HML; exact hP_.out)
             · have hbt2 : ((x4 / 2 ^ j).tmod 2 == 1) = false := beq_eq_false_iff_ne.2 hbt
               clear HBl HFl hQ
               go_wp2_with fail
               go_roundw
               case rel => exact ⟨j + 1, xs, hj31, by simp, ⟨binv_keep HBI.out⟩, HO, HBX⟩
               case measure => simp [intOf]; omega
           · have hd1 : ¬ (m : Int) < 8 * (L : Int) := by omega
             clear HBl HFl hQ
             go_wp2_with fail
             go_roundw
             case rel => exact ⟨j + 1, xs, hj31, by simp, ⟨binv_keep HBI.out⟩, HO, HBX⟩
             case measure => simp [intOf]; omega
     · have HPC := Aside0.mk (chunk_Piece_calls A1 c1 d i wr (HG.out.below HBW.out) HRD.out HC1.out (by omega))
       have hpa := piece_at d i (by have := HKK.out; have := HK.out; omega)
       have hFB := take_length d (i + 1)
       rw [hpa.2, List.length_append, ← HBe.out] at hFB
       have hah : aheadOf d (i + 1) = aheadOf d i + (pieceOf d i).length := by unfold aheadOf; rw [hpa.2, List.length_append]
       change aheadOf d i + _ ≤ B at hFB
       have hw1 : wrap64 ((aheadOf d i : Int) + ((pieceOf d i).length : Int)) = ((aheadOf d (i + 1) : Nat) : Int) := by have := HWL.out; rw [hah, wrap_small _ (by omega) (by omega)]; omega
       have hw3 : wrap64 ((i : Int) + 1) = ((i + 1 : Nat) : Int) := by have := HKL.out; have := HKK.out; rw [wrap_small _ (by omega) (by omega)]; omega
       have hlt' : (i : Int) < (kk : Int) := Int.ofNat_lt.2 (Nat.lt_of_le_of_ne hi hik)
       have hlt : decide ((i : Int) < (kk : Int)) = true := decide_eq_true hlt'
       clear hlt'
       have HW1 := Aside0.mk hw1
       have HW3 := Aside0.mk hw3
       clear hw1 hw3 hpa hFB hah
       go_wp2_with fail
       refine HPC.out.mono ?_
       rintro e w5 ⟨Av, cv, rfl, _, _, hb5⟩
       have HB5 := Aside0.mk (below_step HB.out hb5)
       clear hb5 HPC
       go_wp2_with fail
       go_roundw
       case rel => exact ⟨i + 1, by omega, by rw [HW3.out], by rw [HW1.out], HB5⟩
       case measure => rw [HW3.out]; simp [intOf]; omega
end Go.Proofs.YtpnlpbbnakplhaaDoor
