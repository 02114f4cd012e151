/- ChunkOrder: the plain law. -/
import Derived.Test.YtpnlpbbnakplhaaDoorBackLaw
namespace Go.Proofs.YtpnlpbbnakplhaaDoor
open Go.RowKit Go.Proofs.YtpnlpbbnakplhaaDoorW.PrintWords Go.Proofs.YtpnlpbbnakplhaaDoorW.PrintLast Go.Proofs.YtpnlpbbnakplhaaDoorW.PrintMore
set_option linter.unusedVariables false
theorem piece_bytes (d : List Int) (h : Bytes (ChunkPure.wrap Z d)) (i : Int) : Bytes (pieceOf d i) := by
  unfold pieceOf
  split
  · cases hx : (ChunkPure.pieces Z d)[i.toNat]? with
    | none => exact bytes_nil
    | some x => exact fun c hc => h c (by rw [← ChunkPure.pieces_flatten]; exact List.mem_flatten.2 ⟨x, List.mem_of_getElem? hx, hc⟩)
  · exact bytes_nil
theorem piece_len (d : List Int) (i : Int) : (pieceOf d i).length ≤ (ChunkPure.wrap Z d).length := by
  by_cases h : i < 0 ∨ ((ChunkPure.pieces Z d).length : Int) ≤ i
  · rw [piece_out d i h]; simp
  · obtain ⟨m, rfl⟩ := Int.eq_ofNat_of_zero_le (show 0 ≤ i by omega)
    have h1 := (piece_at d m (by omega)).2
    have h2 := take_length d (m + 1)
    rw [h1, List.length_append] at h2
    omega
def ordC (d : List Int) (a b h m : Nat) : List Int :=
  if m = a then (if h = 0 then pieceOf d b else if h = 1 then [] else pieceOf d a ++ pieceOf d a)
  else if m = b ∧ h = 0 then pieceOf d a else pieceOf d m
def ordO (d : List Int) (a b h : Nat) : Nat → List Int | 0 => [] | m + 1 => ordO d a b h m ++ ordC d a b h m
theorem ordO_pre (d : List Int) (a b h : Nat) : ∀ m, m ≤ a → (h = 0 → m ≤ b) → m ≤ (ChunkPure.pieces Z d).length → ordO d a b h m = ((ChunkPure.pieces Z d).take m).flatten
  | 0, _, _, _ => by simp [ordO]
  | m + 1, h1, h2, h3 => by
    rw [ordO, ordO_pre d a b h m (by omega) (fun e => by have := h2 e; omega) (by omega), (piece_at d m (by omega)).2]
    unfold ordC
    rw [if_neg (by omega), if_neg (fun e => by have := h2 e.2; omega)]
theorem ordO_more (d : List Int) (a b h m : Nat) : ∀ j, ∃ r, ordO d a b h (m + j) = ordO d a b h m ++ r
  | 0 => ⟨[], by simp⟩
  | j + 1 => by
    obtain ⟨r, hr⟩ := ordO_more d a b h m j
    exact ⟨r ++ ordC d a b h (m + j), by rw [← Nat.add_assoc, ordO, hr, List.append_assoc]⟩
theorem ordO_len1 (d : List Int) (a b : Nat) : ∀ m, a < m → m ≤ (ChunkPure.pieces Z d).length → (ordO d a b 1 m).length + (pieceOf d a).length = ((ChunkPure.pieces Z d).take m).flatten.length
  | 0, h, _ => by omega
  | m + 1, h1, h3 => by
    rw [ordO, (piece_at d m (by omega)).2, List.length_append, List.length_append]
    by_cases e : m = a
    · subst e
      rw [ordO_pre d m b 1 m (Nat.le_refl _) (by omega) (by omega)]
      simp [ordC]
    · have := ordO_len1 d a b m (by omega) (by omega)
      unfold ordC
      rw [if_neg e, if_neg (by omega)]
      omega
theorem ordO_len2 (d : List Int) (a b : Nat) : ∀ m, a < m → m ≤ (ChunkPure.pieces Z d).length → (ordO d a b 2 m).length = ((ChunkPure.pieces Z d).take m).flatten.length + (pieceOf d a).length
  | 0, h, _ => by omega
  | m + 1, h1, h3 => by
    rw [ordO, (piece_at d m (by omega)).2, List.length_append, List.length_append]
    by_cases e : m = a
    · subst e
      rw [ordO_pre d m b 2 m (Nat.le_refl _) (by omega) (by omega)]
      simp [ordC]
      omega
    · have := ordO_len2 d a b m (by omega) (by omega)
      unfold ordC
      rw [if_neg e, if_neg (by omega)]
      omega
theorem take_one (d : List Int) : ((ChunkPure.pieces Z d).take 1).flatten = ChunkPure.head Z d.length := by simp [ChunkPure.pieces]
theorem swap_err (d : List Int) (hd : d.length ≤ 699) (i j : Nat) (h1 : 1 ≤ i) (hij : i < j) (hj : j + 2 ≤ (ChunkPure.pieces Z d).length) (r : List Int) :
    ∃ e, ChunkPure.unwrap Z (((ChunkPure.pieces Z d).take i).flatten ++ pieceOf d j ++ r) = .error e := by
  have hc := ChunkPure.pieces_count Z d
  have hpc := ChunkPure.parts_count Z d.length 0 d (Nat.le_refl _)
  obtain ⟨i, rfl⟩ : ∃ n, i = n + 1 := ⟨i - 1, by omega⟩
  obtain ⟨j, rfl⟩ : ∃ n, j = n + 1 := ⟨j - 1, by omega⟩
  have hp : pieceOf d ((j + 1 : Nat) : Int) = ChunkPure.part Z j ((d.drop (100 * j)).take 100) := by
    unfold pieceOf
    rw [if_pos (by omega), Int.toNat_natCast, pieces_part d j (by omega)]
    rfl
  have ht : ((ChunkPure.pieces Z d).take (i + 1)).flatten = ChunkPure.head Z d.length ++ ((ChunkPure.parts Z d.length 0 d).take i).flatten := by
    unfold ChunkPure.pieces
    rw [List.take_succ_cons, List.flatten_cons, List.take_append_of_le_length (by omega)]
  rw [hp, ht, List.append_assoc, List.append_assoc]
  refine ChunkPure.unwrap_other Z d (by omega) ((ChunkPure.parts Z d.length 0 d).take i) _ _ _ r j (ChunkPure.split_at _ i (by omega)) ?_
  rw [List.length_take]
  omega
theorem order_err (d : List Int) (hd : d.length ≤ 699) (a b h : Nat) (ha : 1 ≤ a) (ha2 : a + 2 ≤ (ChunkPure.pieces Z d).length) (hb : 1 ≤ b) (hb2 : b + 2 ≤ (ChunkPure.pieces Z d).length) (hab : a ≠ b) (hh : h < 3) :
    ∃ e, ChunkPure.unwrap Z (ordO d a b h (ChunkPure.pieces Z d).length) = .error e := by
  have hall : ((ChunkPure.pieces Z d).take (ChunkPure.pieces Z d).length).flatten = ChunkPure.wrap Z d := by rw [List.take_length, ChunkPure.pieces_flatten]
  have hpa := (piece_at d a (by omega)).1
  have hcase : h = 0 ∨ h = 1 ∨ h = 2 := by omega
  rcases hcase with rfl | rfl | rfl
  · by_cases hlt : a < b
    · obtain ⟨r, hr⟩ := ordO_more d a b 0 (a + 1) ((ChunkPure.pieces Z d).length - (a + 1))
      rw [show a + 1 + ((ChunkPure.pieces Z d).length - (a + 1)) = (ChunkPure.pieces Z d).length by omega] at hr
      rw [hr, ordO, ordO_pre d a b 0 a (Nat.le_refl _) (by omega) (by omega)]
      unfold ordC
      rw [if_pos rfl, if_pos rfl]
      exact swap_err d hd a b ha hlt hb2 r
    · obtain ⟨r, hr⟩ := ordO_more d a b 0 (b + 1) ((ChunkPure.pieces Z d).length - (b + 1))
      rw [show b + 1 + ((ChunkPure.pieces Z d).length - (b + 1)) = (ChunkPure.pieces Z d).length by omega] at hr
      rw [hr, ordO, ordO_pre d a b 0 b (by omega) (by omega) (by omega)]
      unfold ordC
      rw [if_neg (by omega), if_pos ⟨rfl, rfl⟩]
      exact swap_err d hd b a hb (by omega) ha2 r
  · obtain ⟨r, hr⟩ := ordO_more d a b 1 1 ((ChunkPure.pieces Z d).length - 1)
    rw [show 1 + ((ChunkPure.pieces Z d).length - 1) = (ChunkPure.pieces Z d).length by omega] at hr
    have hl := ordO_len1 d a b _ (by omega) (Nat.le_refl _)
    rw [ordO_pre d a b 1 1 ha (by omega) (by omega), take_one] at hr
    rw [hall] at hl
    rw [hr] at hl ⊢
    exact ChunkPure.unwrap_long Z d r (by omega) (by omega)
  · obtain ⟨r, hr⟩ := ordO_more d a b 2 1 ((ChunkPure.pieces Z d).length - 1)
    rw [show 1 + ((ChunkPure.pieces Z d).length - 1) = (ChunkPure.pieces Z d).length by omega] at hr
    have hl := ordO_len2 d a b _ (by omega) (Nat.le_refl _)
    rw [ordO_pre d a b 2 1 ha (by omega) (by omega), take_one] at hr
    rw [hall] at hl
    rw [hr] at hl ⊢
    exact ChunkPure.unwrap_long Z d r (by omega) (by omega)
theorem ordC_bytes (d : List Int) (hb : Bytes (ChunkPure.wrap Z d)) (a b h m : Nat) : Bytes (ordC d a b h m) := by
  unfold ordC
  split
  · split
    · exact piece_bytes d hb _
    · split
      · exact bytes_nil
      · exact bytes_append (piece_bytes d hb _) (piece_bytes d hb _)
  · split
    · exact piece_bytes d hb _
    · exact piece_bytes d hb _
theorem ordO_bytes (d : List Int) (hb : Bytes (ChunkPure.wrap Z d)) (a b h : Nat) : ∀ m, Bytes (ordO d a b h m)
  | 0 => bytes_nil
  | m + 1 => bytes_append (ordO_bytes d hb a b h m) (ordC_bytes d hb a b h m)
theorem ordC_len (d : List Int) (hd : (ChunkPure.wrap Z d).length ≤ 1000) (a b h m : Nat) : (ordC d a b h m).length ≤ 2000 := by
  have h1 := piece_len d a
  have h2 := piece_len d b
  have h3 := piece_len d m
  unfold ordC
  split
  · split
    · omega
    · split
      · simp
      · rw [List.length_append]; omega
  · split
    · omega
    · omega
theorem ordO_len (d : List Int) (hd : (ChunkPure.wrap Z d).length ≤ 1000) (a b h : Nat) : ∀ m, (ordO d a b h m).length ≤ 2000 * m
  | 0 => by simp [ordO]
  | m + 1 => by
    rw [ordO, List.length_append]
    have h1 := ordC_len d hd a b h m
    have h2 := ordO_len d hd a b h m
    omega
end Go.Proofs.YtpnlpbbnakplhaaDoor
