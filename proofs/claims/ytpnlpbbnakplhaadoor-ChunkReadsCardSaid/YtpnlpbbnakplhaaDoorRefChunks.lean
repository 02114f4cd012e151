/- What the document's pieces of an archive (layer 18) come to: those of ChunkPure. -/
import Derived.Test.YtpnlpbbnakplhaaDoorRefFns
import Derived.Test.YtpnlpbbnakplhaaDoorRfrontx1
import Derived.Test.YtpnlpbbnakplhaaDoorRchunksx1
import Derived.Test.YtpnlpbbnakplhaaDoorRPiecesx1
import Derived.Test.YtpnlpbbnakplhaaDoorRefSum
import Derived.Test.YtpnlpbbnakplhaaDoorKnown
namespace Go.Proofs.YtpnlpbbnakplhaaDoor
open Go.RowKit Go.Proofs.YtpnlpbbnakplhaaDoorW.PrintWords Go.Proofs.YtpnlpbbnakplhaaDoorW.PrintMore Go.Proofs.YtpnlpbbnakplhaaDoor.RRight
set_option linter.unusedVariables false
theorem rseal (l : List Int) (hl : Bytes l) (hn : l.length ≤ 1099511627776) (k : Nat) (hk : 10 * l.length < k) : roadsteadref02_Seal.f k l = some (ChunkPure.sealL Z l) := by
  rw [ref_seal l hl hn k hk, ← seal_f l hl hn, seal_some l hn]
theorem rright (l : List Int) (hl : Bytes l) (hn : l.length ≤ 1099511627776) (k : Nat) (hk : 10 * l.length < k) : roadsteadref02_Right.f k l = some (decide (ChunkPure.Right Z l)) := by
  rw [ref_right l hl hn k hk, ← right_f l hl hn, right_some l hl hn]
theorem rhead (n : Nat) (hn : n ≤ 1048576) (k : Nat) (hk : 100 < k) : Rfront.roadsteadref18_head.f k (n : Int) = some (ChunkPure.head Z n) := by
  unfold Rfront.roadsteadref18_head.f
  have hl : ([82, 83, 65, 49, (wrap64 (Int.tdiv n 16777216)) % 256, (Int.tmod (wrap64 (Int.tdiv n 65536)) 256) % 256, (Int.tmod (wrap64 (Int.tdiv n 256)) 256) % 256, (Int.tmod (n : Int) 256) % 256] : List Int) = ChunkPure.mark ++ ChunkPure.be4 n := by
    have h0 : (0 : Int) ≤ n := Int.natCast_nonneg _
    rw [Int.tdiv_eq_ediv_of_nonneg h0, Int.tdiv_eq_ediv_of_nonneg h0, Int.tdiv_eq_ediv_of_nonneg h0, wrap_small _ (by omega) (by omega), wrap_small _ (by omega) (by omega), wrap_small _ (by omega) (by omega), Int.tmod_eq_emod_of_nonneg (by omega), Int.tmod_eq_emod_of_nonneg (by omega), Int.tmod_eq_emod_of_nonneg (by omega)]
    simp only [ChunkPure.mark, ChunkPure.be4, List.cons_append, List.nil_append, List.cons.injEq, and_true, true_and]
    omega
  rw [hl, rseal _ (bytes_append mark_bytes (by intro c hc; simp [ChunkPure.be4] at hc; unfold Byte; omega)) (by simp [ChunkPure.mark, ChunkPure.be4]) k (by simp [ChunkPure.mark, ChunkPure.be4]; omega)]
  rfl
theorem mn_eq (a b : Nat) : mn (a : Int) (b : Int) = ((min a b : Nat) : Int) := by
  unfold mn
  split <;> omega
theorem rpart (l : List Int) (i : Nat) (hi : 100 * i < l.length) (hl : l.length ≤ 1048576) (hb : Bytes l) (k : Nat) (hk : 1200 < k) : Rfront.roadsteadref18_part.f k l (i : Int) = some (ChunkPure.part Z i ((l.drop (100 * i)).take 100)) := by
  unfold Rfront.roadsteadref18_part.f
  have e1 : wrap64 (100 * (i : Int)) = ((100 * i : Nat) : Int) := by rw [wrap_small _ (by omega) (by omega)]; omega
  have e2 : wrap64 (((100 * i : Nat) : Int) + 100) = ((100 * i + 100 : Nat) : Int) := by rw [wrap_small _ (by omega) (by omega)]; omega
  rw [e1, e2, mn_eq, if_pos (by omega), if_pos (by omega), if_pos (by omega), Option.bind_some]
  have ec : (l.take (((min (100 * i + 100) l.length : Nat) : Int).toNat)).drop ((100 * i : Nat) : Int).toNat = (l.drop (100 * i)).take 100 := by
    rw [Int.toNat_natCast, Int.toNat_natCast, List.drop_take]
    by_cases h : 100 * i + 100 ≤ l.length
    · rw [Nat.min_eq_left h, show 100 * i + 100 - 100 * i = 100 by omega]
    · rw [Nat.min_eq_right (by omega), List.take_of_length_le (by rw [List.length_drop]; exact Nat.le_refl _), List.take_of_length_le (by rw [List.length_drop]; omega)]
  rw [ec]
  have hcl : ((l.drop (100 * i)).take 100).length ≤ 100 := by rw [List.length_take]; omega
  have hcb : Bytes ((l.drop (100 * i)).take 100) := bytes_take (bytes_drop hb _) _
  generalize (l.drop (100 * i)).take 100 = c at hcl hcb ⊢
  have eh : ([(wrap64 (Int.tdiv i 256)) % 256, (Int.tmod (i : Int) 256) % 256, ((c.length : Int)) % 256] : List Int) ++ c = ((i / 256 : Nat) : Int) :: ((i % 256 : Nat) : Int) :: ((c.length : Nat) : Int) :: c := by
    have h0 : (0 : Int) ≤ i := Int.natCast_nonneg _
    rw [Int.tdiv_eq_ediv_of_nonneg h0, wrap_small _ (by omega) (by omega), Int.tmod_eq_emod_of_nonneg h0]
    simp only [List.cons_append, List.nil_append, List.cons.injEq, and_true]
    omega
  rw [if_pos (by simp; omega), eh, rseal _ (bytes_cons (by unfold Byte; omega) (bytes_cons (by unfold Byte; omega) (bytes_cons (by unfold Byte; omega) hcb))) (by simp; omega) k (by simp; omega)]
  rfl
theorem rfront_l0 (l : List Int) (hl : l.length ≤ 1048576) (hb : Bytes l) : ∀ (d i k : Nat) (acc : List Int), l.length ≤ 100 * i + d → i ≤ 20000 → acc.length ≤ 12 + 107 * i → d + 1300 < k →
    Rfront.roadsteadref18_front.l0 k l acc (i : Int) = some (acc ++ (ChunkPure.parts Z d i (l.drop (100 * i))).flatten)
  | 0, i, k + 1, acc, hd, hi, ha, hk => by
    have e1 : wrap64 (100 * (i : Int)) = ((100 * i : Nat) : Int) := by rw [wrap_small _ (by omega) (by omega)]; omega
    rw [Rfront.roadsteadref18_front.l0, e1, if_neg (by omega)]
    simp [ChunkPure.parts]
  | d + 1, i, k + 1, acc, hd, hi, ha, hk => by
    have e1 : wrap64 (100 * (i : Int)) = ((100 * i : Nat) : Int) := by rw [wrap_small _ (by omega) (by omega)]; omega
    have e2 : wrap64 ((i : Int) + 1) = ((i + 1 : Nat) : Int) := by rw [wrap_small _ (by omega) (by omega)]; omega
    rw [Rfront.roadsteadref18_front.l0, e1]
    by_cases h : 100 * i < l.length
    · have hne : l.drop (100 * i) ≠ [] := by
        intro e
        have := congrArg List.length e
        rw [List.length_drop] at this
        simp at this
        omega
      have hpl : (ChunkPure.part Z i ((l.drop (100 * i)).take 100)).length ≤ 107 := by rw [ChunkPure.part_length, List.length_take]; omega
      rw [if_pos (by omega), rpart l i h hl hb k (by omega), Option.bind_some, if_pos (by omega), e2, rfront_l0 l hl hb d (i + 1) k _ (by omega) (by omega) (by rw [List.length_append]; omega) (by omega), ChunkPure.parts, if_neg hne, List.flatten_cons, List.drop_drop, show 100 * i + 100 = 100 * (i + 1) by omega, List.append_assoc]
    · have he : l.drop (100 * i) = [] := List.drop_of_length_le (by omega)
      rw [if_neg (by omega), he]
      simp [ChunkPure.parts]
theorem rfront (l : List Int) (hl : l.length ≤ 1048576) (hb : Bytes l) (k : Nat) (hk : l.length + 1300 < k) : Rfront.roadsteadref18_front.f k l = some (ChunkPure.front Z l) := by
  unfold Rfront.roadsteadref18_front.f
  rw [rhead _ hl k (by omega), Option.bind_some]
  have h := rfront_l0 l hl hb l.length 0 k (ChunkPure.head Z l.length) (by omega) (by omega) (by rw [ChunkPure.head_length]; omega) hk
  rw [show ((0 : Nat) : Int) = 0 from rfl] at h
  rw [h]
  rfl
theorem rpieces (n : Int) : RPieces.roadsteadref18_Pieces.f n = some (countOf n) := by
  unfold RPieces.roadsteadref18_Pieces.f countOf
  by_cases h : n < 0
  · rw [if_pos h, if_neg (by omega)]
  · rw [if_neg h]
    by_cases h2 : n > 1048576
    · rw [if_pos h2, if_neg (by omega)]
    · rw [if_neg h2, if_pos (by omega), wrap_small (n + 99) (by omega) (by omega), Int.tdiv_eq_ediv_of_nonneg (by omega), wrap_small ((n + 99) / 100) (by omega) (by omega), wrap_small _ (by omega) (by omega)]
def trip (b : List Int) (out : List Int) : Except Nat (List Int × List Int) → List Int × Int × Int
  | .ok (o, r) => (out ++ o, ((b.length - r.length : Nat) : Int), 0)
  | .error e => ([], 0, (e : Int))
theorem chunks_any (d i m : Nat) (r : List Int) (h : m = 0) : ChunkPure.chunks Z d i m r = .ok ([], r) := by
  subst h
  cases d <;> simp [ChunkPure.chunks]
theorem w_nat {a : Int} {n : Nat} (h : a = (n : Int)) (hn : n ≤ 4611686018427387904) : wrap64 a = n := by
  rw [wrap_small _ (by omega) (by omega)]; exact h
theorem rnums {n o m c at_ i bl : Nat} (hm : m = n - o) (ho : o ≤ n) (hn : n ≤ 4294967296) (hc : c ≤ 100) (hat : at_ ≤ bl) (hbl : bl ≤ 100000) (hi : i ≤ at_) :
    wrap64 ((n : Int) - (o : Int)) = ((m : Nat) : Int) ∧ wrap64 ((bl : Int) - (at_ : Int)) = ((bl - at_ : Nat) : Int) ∧ wrap64 (7 + ((c : Nat) : Int)) = ((c + 7 : Nat) : Int) ∧ wrap64 ((at_ : Int) + 7) = ((at_ + 7 : Nat) : Int) ∧
    wrap64 (((at_ + 7 : Nat) : Int) + ((c : Nat) : Int)) = ((at_ + (c + 7) : Nat) : Int) ∧ wrap64 (3 + ((c : Nat) : Int)) = ((c + 3 : Nat) : Int) ∧ wrap64 ((at_ : Int) + ((c + 7 : Nat) : Int)) = ((at_ + (c + 7) : Nat) : Int) ∧ wrap64 ((i : Int) + 1) = ((i + 1 : Nat) : Int) :=
  ⟨w_nat (by omega) (by omega), w_nat (by omega) (by omega), w_nat (by omega) (by omega), w_nat (by omega) (by omega), w_nat (by omega) (by omega), w_nat (by omega) (by omega), w_nat (by omega) (by omega), w_nat (by omega) (by omega)⟩
theorem rchunks_l0 (b : List Int) (hb : Bytes b) (hl : b.length ≤ 100000) (n : Nat) (hn : n ≤ 4294967296) : ∀ (d i at_ k : Nat) (out : List Int), out.length ≤ n → n - out.length ≤ d → at_ ≤ b.length → i ≤ at_ → out.length ≤ at_ → b.length - at_ + 2000 < k →
    Rchunks.roadsteadref18_chunks.l0 k b (n : Int) out (at_ : Int) (i : Int) = some (trip b out (ChunkPure.chunks Z d i (n - out.length) (b.drop at_))) := by
  intro d
  induction d with
  | zero =>
    intro i at_ k out h1 h2 h3 h4 h5 hk
    obtain ⟨k, rfl⟩ : ∃ m, k = m + 1 := ⟨k - 1, by omega⟩
    rw [Rchunks.roadsteadref18_chunks.l0, if_neg (by omega), chunks_any _ _ _ _ (by omega)]
    simp only [trip, List.append_nil, List.length_drop]
    congr 3
    omega
  | succ d ihd =>
    intro i at_ k out h1 h2 h3 h4 h5 hk
    obtain ⟨k, rfl⟩ : ∃ m, k = m + 1 := ⟨k - 1, by omega⟩
    rw [Rchunks.roadsteadref18_chunks.l0]
    by_cases h : out.length < n
    · obtain ⟨m, hm⟩ : ∃ m, m = n - out.length := ⟨_, rfl⟩
      obtain ⟨c, hc⟩ : ∃ c, c = min m 100 := ⟨_, rfl⟩
      have hc100 : c ≤ 100 := by omega
      have g2 : mn ((m : Nat) : Int) 100 = ((c : Nat) : Int) := by rw [hc]; exact mn_eq m 100
      have hdl : (b.drop at_).length = b.length - at_ := List.length_drop
      have er : (b.take ((at_ + (c + 7) : Nat) : Int).toNat).drop (at_ : Int).toNat = (b.drop at_).take (c + 7) := by
        rw [Int.toNat_natCast, Int.toNat_natCast, List.drop_take, show at_ + (c + 7) - at_ = c + 7 by omega]
      have hlt : (out.length : Int) < (n : Int) := Int.ofNat_lt.2 h
      obtain ⟨g1, g3, g4, g5, g6, g7, g8, g9⟩ := rnums hm h1 hn hc100 h3 hl h4
      rw [g1, g2, g3, g4, g5, g6, g7, g8, g9, if_pos hlt, ← hm, er]
      clear er g1 g2 g3 g4 g5 g6 g7 g8 g9
      have htb : Bytes (b.drop at_) := bytes_drop hb _
      have hdd : b.drop (at_ + (c + 7)) = (b.drop at_).drop (c + 7) := (List.drop_drop).symm
      have ihh := fun h2' h3' h4' h5' h6' h7' => ihd (i + 1) (at_ + (c + 7)) k (out ++ ((b.drop at_).drop 3).take c) h2' h3' h4' h5' h6' h7'
      rw [hdd] at ihh
      obtain ⟨T, hT⟩ : ∃ T, T = b.drop at_ := ⟨_, rfl⟩
      rw [← hT] at hdl htb ihh ⊢
      have hch : ChunkPure.chunks Z (d + 1) i m T = (if T.length < c + 7 then .error 10
          else if ¬ ChunkPure.Right Z (T.take (c + 7)) then .error 12
          else if (T.getD 0 0) * 256 + T.getD 1 0 ≠ i ∨ T.getD 2 0 ≠ (c : Nat) then .error 11
          else match ChunkPure.chunks Z d (i + 1) (m - c) (T.drop (c + 7)) with
            | .ok (out, r) => .ok ((T.drop 3).take c ++ out, r)
            | .error e => .error e) := by rw [ChunkPure.chunks, if_neg (by omega), ← hc]; rfl
      clear hT
      by_cases hs : T.length < c + 7
      · rw [hch, if_pos hs, if_pos (by omega)]
        rfl
      · rw [if_neg hs] at hch
        have hrl : (T.take (c + 7)).length = c + 7 := by rw [List.length_take]; omega
        have hrb : Bytes (T.take (c + 7)) := bytes_take htb _
        have r0 : rd (T.take (c + 7)) 0 = T.getD 0 0 := by simp [rd, List.getD]
        have r1 : rd (T.take (c + 7)) 1 = T.getD 1 0 := by simp [rd, List.getD]
        have r2 : rd (T.take (c + 7)) 2 = T.getD 2 0 := by simp [rd, List.getD]
        have b0 : 0 ≤ T.getD 0 0 ∧ T.getD 0 0 < 256 := by rw [← r0]; exact rd_range _ hrb _
        have b1 : 0 ≤ T.getD 1 0 ∧ T.getD 1 0 < 256 := by rw [← r1]; exact rd_range _ hrb _
        have b2 : 0 ≤ T.getD 2 0 ∧ T.getD 2 0 < 256 := by rw [← r2]; exact rd_range _ hrb _
        have et : ((T.take (c + 7)).take ((c + 3 : Nat) : Int).toNat).drop 3 = (T.drop 3).take c := by
          rw [Int.toNat_natCast, List.take_take, Nat.min_eq_left (by omega), List.drop_take, show c + 3 - 3 = c by omega]
        have hR := rright _ hrb (by omega) k (by omega)
        rw [r0, r1, r2, et, hR, Option.bind_some, hrl, if_neg (by omega), if_pos (by omega), if_pos (by omega), if_pos (by omega)]
        clear hR r0 r1 r2 et
        by_cases hR : ChunkPure.Right Z (T.take (c + 7))
        · rw [if_neg (fun hh => hh hR)] at hch
          rw [decide_eq_true hR, if_pos rfl, if_pos (by omega), if_pos (by omega), wrap_small (T.getD 0 0) (by omega) (by omega), wrap_small (T.getD 1 0) (by omega) (by omega), wrap_small (T.getD 2 0) (by omega) (by omega), wrap_small (T.getD 0 0 * 256) (by omega) (by omega), wrap_small _ (by omega) (by omega)]
          by_cases hi : T.getD 0 0 * 256 + T.getD 1 0 = (i : Int)
          · rw [if_pos hi, if_pos (by omega)]
            by_cases h2' : T.getD 2 0 = ((c : Nat) : Int)
            · have hcl : ((T.drop 3).take c).length = c := by rw [List.length_take, List.length_drop]; omega
              rw [if_neg (by omega)] at hch
              rw [if_pos h2', if_pos (by omega), if_pos (by omega), if_pos (by omega), hch]
              have ih := ihh (by rw [List.length_append]; omega) (by rw [List.length_append]; omega) (by omega) (by omega) (by rw [List.length_append]; omega) (by omega)
              rw [List.length_append, hcl, show n - (out.length + c) = m - c by omega] at ih
              rw [ih]
              cases ChunkPure.chunks Z d (i + 1) (m - c) (T.drop (c + 7)) with
              | error e => rfl
              | ok y => obtain ⟨o, r⟩ := y; simp only [trip, List.append_assoc]
            · rw [if_neg h2', hch, if_pos (by right; exact h2')]
              rfl
          · rw [if_neg hi, hch, if_pos (by left; exact hi)]
            rfl
        · rw [decide_eq_false hR, if_neg (by simp), hch, if_pos hR]
          rfl
    · rw [if_neg (by omega), chunks_any _ _ _ _ (by omega)]
      simp only [trip, List.append_nil, List.length_drop]
      congr 3
      omega
theorem rchunks (b : List Int) (hb : Bytes b) (hl : b.length ≤ 100000) (h12 : 12 ≤ b.length) (n : Nat) (hn : n ≤ 4294967296) (k : Nat) (hk : b.length + 2000 < k) :
    Rchunks.roadsteadref18_chunks.f k b (n : Int) = some (trip b [] (ChunkPure.chunks Z n 0 n (b.drop 12))) := by
  unfold Rchunks.roadsteadref18_chunks.f
  exact rchunks_l0 b hb hl n hn n 0 12 k [] (by simp) (by simp) h12 (by omega) (by simp) (by omega)
end Go.Proofs.YtpnlpbbnakplhaaDoor
