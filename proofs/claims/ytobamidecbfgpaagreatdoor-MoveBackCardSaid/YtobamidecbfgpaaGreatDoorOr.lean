/- The order of keys (plain). No condition. -/
import Derived.Test.YtobamidecbfgpaaGreatDoorRf
namespace Go.Proofs.YtobamidecbfgpaaGreatDoor
open Go Go.Sh Go.RowKit
set_option linter.unusedVariables false
theorem bl_cons (a b : UInt8) (r s : Str) : Op.bytesLess (a :: r) (b :: s) = (decide (a < b) || (a == b && Op.bytesLess r s)) := by
  rw [Op.bytesLess]
theorem bl_irr : ∀ r : Str, Op.bytesLess r r = false
  | [] => rfl
  | a :: r => by rw [bl_cons, bl_irr r]; simp
theorem bl_u8 (a b : Nat) (ha : a < 256) (hb : b < 256) (r s : Str) : Op.bytesLess (u8 a :: r) (u8 b :: s) = if a < b then true else if b < a then false else Op.bytesLess r s := by
  rw [bl_cons]
  have h1 : (u8 a < u8 b) ↔ a < b := by rw [UInt8.lt_iff_toNat_lt, u8_nat ha, u8_nat hb]
  have h2 : (u8 a == u8 b) = decide (a = b) := by
    by_cases e : a = b
    · simp [e]
    · have : ¬ u8 a = u8 b := fun q => e (by have := congrArg UInt8.toNat q; rwa [u8_nat ha, u8_nat hb] at this)
      simp [e, this]
  rw [h2]
  rcases Nat.lt_trichotomy a b with h | h | h
  · simp [h1, h]
  · subst h; simp [h1]
  · have : ¬ a < b := by omega
    have h3 : ¬ a = b := by omega
    simp [h1, this, h, h3]
theorem bl_pad : ∀ (k a b : Nat) (r s : Str), a < 10 ^ k → b < 10 ^ k → Op.bytesLess (padD k a ++ r) (padD k b ++ s) = if a < b then true else if b < a then false else Op.bytesLess r s
  | 0, a, b, r, s, ha, hb => by
    simp at ha hb
    simp [padD, ha, hb]
  | k + 1, a, b, r, s, ha, hb => by
    rw [Nat.pow_succ] at ha hb
    rw [padD, padD, List.append_assoc, List.append_assoc, bl_pad k _ _ _ _ (by omega) (by omega), List.singleton_append, List.singleton_append, bl_u8 _ _ (by omega) (by omega)]
    by_cases h1 : a / 10 < b / 10
    · rw [if_pos h1, if_pos (by omega)]
    · by_cases h2 : b / 10 < a / 10
      · rw [if_neg h1, if_pos h2, if_neg (by omega), if_pos (by omega)]
      · rw [if_neg h1, if_neg h2]
        by_cases h3 : a < b
        · rw [if_pos h3, if_pos (by omega)]
        · by_cases h4 : b < a
          · rw [if_neg h3, if_pos h4, if_neg (by omega), if_pos (by omega)]
          · rw [if_neg h3, if_neg h4, if_neg (by omega), if_neg (by omega)]
/-- A key's number. -/
def Kr.num (r : Kr) : Nat := ((r.v * 256 + r.t) * 10000000000 + r.id) * 10000000000 + r.seq
theorem key_less {r s : Kr} (hr : KrOK r) (hs : KrOK s) : Op.bytesLess r.row.key s.row.key = decide (r.num < s.num) := by
  obtain ⟨a1, a2, a3, a4⟩ := hr
  obtain ⟨b1, b2, b3, b4⟩ := hs
  have e1 := bl_pad 10 r.seq s.seq [] [] (by omega) (by omega)
  have e2 := bl_pad 10 r.id s.id (padD 10 r.seq) (padD 10 s.seq) (by omega) (by omega)
  simp only [List.append_nil] at e1
  show Op.bytesLess (keyB r.v r.t r.id r.seq) (keyB s.v s.t s.id s.seq) = _
  unfold keyB Kr.num
  rw [bl_u8 _ _ (by omega) (by omega), bl_u8 _ _ (by omega) (by omega), e2, e1]
  have e0 : Op.bytesLess [] [] = false := rfl
  rw [e0]
  repeat' split
  all_goals (symm; first | (rw [decide_eq_true_eq]; omega) | (rw [decide_eq_false_iff_not]; omega))
theorem key_num {r s : Kr} (hr : KrOK r) (hs : KrOK s) (h : r.row.key = s.row.key) : r.num = s.num := by
  have h1 := key_less hr hs
  have h2 := key_less hs hr
  rw [h, bl_irr] at h1
  rw [h, bl_irr] at h2
  have h3 : ¬ r.num < s.num := of_decide_eq_false h1.symm
  have h4 : ¬ s.num < r.num := of_decide_eq_false h2.symm
  omega
theorem num_parts {r s : Kr} (hr : KrOK r) (hs : KrOK s) (h : r.num = s.num) : r.v = s.v ∧ r.t = s.t ∧ r.id = s.id ∧ r.seq = s.seq := by
  obtain ⟨a1, a2, a3, a4⟩ := hr
  obtain ⟨b1, b2, b3, b4⟩ := hs
  unfold Kr.num at h
  omega
theorem rising_of {l : List Kr} (hk : ∀ r ∈ l, KrOK r) (h : ∀ i (hi : i + 1 < l.length), l[i].num < l[i + 1].num) : Rising (l.map Kr.row) := by
  intro i hi
  have hi' : i + 1 < l.length := by simpa using hi
  simp only [List.getElem_map]
  have k1 := hk _ (List.getElem_mem (show i < l.length by omega))
  have k2 := hk _ (List.getElem_mem hi')
  have h0 := h i hi'
  refine ⟨by rw [key_less k2 k1]; exact decide_eq_false (by omega), ?_⟩
  rw [beq_eq_false_iff_ne]
  intro e
  have := key_num k2 k1 e
  omega
end Go.Proofs.YtobamidecbfgpaaGreatDoor
