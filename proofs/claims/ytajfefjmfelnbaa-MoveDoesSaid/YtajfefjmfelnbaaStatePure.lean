/- State of any choices: the plain law: it is told, its subscriptions are few, their numbers are above 0 and no two are the same. -/
import Derived.Test.YtajfefjmfelnbaaBStatex2
import Derived.Test.YtajfefjmfelnbaaBStatex5
import Derived.Test.YtajfefjmfelnbaaBStatex6
import Derived.Test.YtajfefjmfelnbaaBStatex8
namespace Go.Proofs.Ytajfefjmfelnbaa
open Go.RowKit Go.Proofs.YtajfefjmfelnbaaW.PrintWords Go.Proofs.YtajfefjmfelnbaaW.PrintLast Go.Proofs.YtajfefjmfelnbaaW.PrintMore BState
set_option linter.unusedVariables false
theorem w64 (x : Int) (h : -1000000000000 ≤ x ∧ x ≤ 1000000000000) : wrap64 x = x := by unfold wrap64; omega
theorem size_one (c : Int) : (strOfNums [c]).size = 1 := by simp [strOfNums, ByteArray.size]
theorem text_l0 (x0 x1 : Int) (hx0 : 0 ≤ x0) (h1 : 0 ≤ x1 ∧ x1 ≤ 100) (hx : x0 ≤ 1000) : ∀ (d k : Nat) (s : ByteArray) (i : Int), 0 ≤ i → x0 % (x1 + 1) - i ≤ d → d < k → i ≤ x0 % (x1 + 1) → (s.size : Int) = i → ∃ r, roadsteadlaw10_text.l0 k x0 x1 s i = some r ∧ r.size ≤ 100
 | d, k + 1, s, i, h0, hd, hk, hi, hs => by
  have e1 : wrap64 (x1 + 1) = x1 + 1 := w64 _ (by omega)
  have e2 : Int.tmod x0 (x1 + 1) = x0 % (x1 + 1) := Int.tmod_eq_emod_of_nonneg hx0
  have hm := Int.emod_lt_of_pos x0 (show 0 < x1 + 1 by omega)
  rw [roadsteadlaw10_text.l0, e1, if_neg (by omega), e2]
  by_cases hlt : i < x0 % (x1 + 1)
  ·rw [if_pos hlt]
   simp only [Option.bind_some]
   rw [size_one, if_pos (by omega), w64 (i + 1) (by omega)]
   cases d with
   | zero => omega
   | succ d =>
    refine text_l0 x0 x1 hx0 h1 hx d k _ (i + 1) (by omega) (by omega) (by omega) (by omega) ?_
    rw [ByteArray.size_append, size_one]
    omega
  ·rw [if_neg hlt]
   exact ⟨s, rfl, by omega⟩
theorem text_some (k : Nat) (x0 x1 : Int) (hx0 : 0 ≤ x0) (h1 : 0 ≤ x1 ∧ x1 ≤ 100) (hx : x0 ≤ 1000) (hk : 102 ≤ k) : ∃ r, roadsteadlaw10_text.f k x0 x1 = some r ∧ r.size ≤ 100 := by
 have hm := Int.emod_lt_of_pos x0 (show 0 < x1 + 1 by omega)
 have hn := Int.emod_nonneg x0 (show x1 + 1 ≠ 0 by omega)
 exact text_l0 x0 x1 hx0 h1 hx 101 k _ 0 (by omega) (by omega) (by omega) (by omega) rfl
def Bytes (l : List Int) : Prop := ∀ i : Int, 0 ≤ rd l i ∧ rd l i < 256
theorem g_some (l : List Int) (hb : Bytes l) (i : Int) (hi : 0 ≤ i) : ∃ r, roadsteadlaw10_g.f l i = some r ∧ 0 ≤ r ∧ r < 256 := by
 unfold roadsteadlaw10_g.f
 have := hb i
 by_cases h : i < (l.length : Int)
 ·rw [if_pos h, if_pos hi]
  exact ⟨_, rfl, by rw [w64 _ (by omega)]; omega, by rw [w64 _ (by omega)]; omega⟩
 ·rw [if_neg h]
  exact ⟨0, rfl, by omega, by omega⟩
theorem sub_l0 (l : List Int) (hb : Bytes l) (hl : l.length ≤ 1000) (a2 a3 id : Int) (s1 s2 s3 : ByteArray) (le mo fl : Int) (note : ByteArray) (hle : 1 ≤ le) (hmo : 1 ≤ mo) :
 ∀ (d k : Nat) (seq i : Int) (acks : List Int) (queue : List S68), 6 ≤ i → i ≤ 100 → 66 ≤ i + 4 * d → 4 * d + 110 ≤ k → (acks.length : Int) ≤ i → (queue.length : Int) ≤ i →
 ∃ r, roadsteadlaw10_Sub.l0 k l a2 a3 seq i id s1 s2 s3 le mo fl acks queue note = some r ∧ r.1 = id
 | d, k + 1, seq, i, acks, queue, h6, hi, hd, hk, ha, hq => by
  obtain ⟨k, rfl⟩ : ∃ m, k = m + 3 := ⟨k - 3, by omega⟩
  have e3 : wrap64 (i + 3) = i + 3 := w64 _ (by omega)
  have e4 : wrap64 (i + 4) = i + 4 := w64 _ (by omega)
  have e1 : wrap64 (i + 1) = i + 1 := w64 _ (by omega)
  have e2 : wrap64 (i + 2) = i + 2 := w64 _ (by omega)
  have out : ∀ b : Bool, b = false → ∃ r, roadsteadlaw10_Sub.j2 (k + 3) l a2 a3 seq i b id s1 s2 s3 le mo fl acks queue note = some r ∧ r.1 = id := by
   intro b hb'
   rw [roadsteadlaw10_Sub.j2, hb', if_neg (by decide)]
   exact ⟨_, rfl, rfl⟩
  rw [roadsteadlaw10_Sub.l0, e3]
  by_cases hlt : i + 3 < (l.length : Int)
  ·rw [if_pos hlt]
   by_cases h66 : i < 66
   ·have hd66 : decide (i < 66) = true := decide_eq_true h66
    rw [hd66, roadsteadlaw10_Sub.j2, if_pos rfl, if_pos (by omega), if_pos (by omega)]
    cases d with
    | zero => omega
    | succ d =>
     generalize wrap64 (seq + wrap64 (1 + wrap64 (Int.tmod (rd l i) 3))) = sq
     by_cases hs : sq ≥ a3
     ·rw [if_pos hs]
      exact ⟨_, rfl, rfl⟩
     ·rw [if_neg hs]
      have hack : ∃ r, roadsteadlaw10_Sub.j3 (k + 2) l a2 a3 sq i true id s1 s2 s3 le mo fl acks queue note = some r ∧ r.1 = id := by
       rw [roadsteadlaw10_Sub.j3, if_pos rfl, if_pos (by omega), e4]
       exact sub_l0 l hb hl a2 a3 id s1 s2 s3 le mo fl note hle hmo d (k + 1) sq (i + 4) _ _ (by omega) (by omega) (by omega) (by omega) (by simp; omega) (by omega)
      have hque : ∃ r, roadsteadlaw10_Sub.j3 (k + 2) l a2 a3 sq i false id s1 s2 s3 le mo fl acks queue note = some r ∧ r.1 = id := by
       rw [roadsteadlaw10_Sub.j3, if_neg (by decide)]
       by_cases h30 : (queue.length : Int) = 30
       ·rw [if_pos h30]
        exact ⟨_, rfl, rfl⟩
       ·rw [if_neg h30, e1, e2, if_pos (by omega), if_pos (by omega)]
        have hb1 := hb (i + 1)
        have hb2 := hb (i + 2)
        have hb3 := hb (i + 3)
        obtain ⟨tx, ht, _⟩ := text_some (k + 1) (wrap64 (rd l (i + 1))) 60 (by rw [w64 _ (by omega)]; omega) (by omega) (by rw [w64 _ (by omega)]; omega) (by omega)
        rw [ht, Option.bind_some, Option.bind_some, if_pos (by omega), if_pos (by omega)]
        have ht2 : Int.tmod (rd l (i + 2)) 3 = rd l (i + 2) % 3 := Int.tmod_eq_emod_of_nonneg hb2.1
        rw [ht2, if_pos (by omega), if_pos (by simp; omega)]
        have last : ∀ (q0 : Int) (q1 q2 : ByteArray) (q3 q4 : Int) (q5 : Bool) (q6 : ByteArray) (q7 : Int), ∃ r, roadsteadlaw10_Sub.j4 (k + 1) l a2 a3 sq i id s1 s2 s3 le mo fl acks queue note q0 q1 q2 q3 q4 q5 q6 q7 = some r ∧ r.1 = id := by
         intro q0 q1 q2 q3 q4 q5 q6 q7
         have go : ∀ m : S68, ∃ r, roadsteadlaw10_Sub.l0 k l a2 a3 sq (i + 4) id s1 s2 s3 le mo fl acks (queue ++ [m]) note = some r ∧ r.1 = id := fun m =>
          sub_l0 l hb hl a2 a3 id s1 s2 s3 le mo fl note hle hmo d k sq (i + 4) _ _ (by omega) (by omega) (by omega) (by omega) (by omega) (by simp; omega)
         rw [roadsteadlaw10_Sub.j4, e3, e4, e1, if_pos (by omega), if_pos (by omega)]
         by_cases c0 : Int.tmod (rd l (i + 3)) 4 = 0
         ·rw [if_pos c0, if_neg (by omega), if_pos (by omega)]
          exact go _
         ·rw [if_neg c0]
          by_cases c1 : Int.tmod (rd l (i + 3)) 4 = 1
          ·rw [if_pos c1, if_neg (by omega), if_pos (by omega), if_pos (by omega), if_neg (by omega), if_pos (by omega)]
           exact go _
          ·rw [if_neg c1]
           by_cases c2 : Int.tmod (rd l (i + 3)) 4 = 2
           ·have ht1 : Int.tmod (rd l (i + 1)) 2 = rd l (i + 1) % 2 := Int.tmod_eq_emod_of_nonneg hb1.1
            rw [if_pos c2, Option.bind_some, if_pos (by omega), if_pos (by omega), ht1, if_pos (by omega), if_pos (by simp; omega), if_pos (by omega)]
            exact go _
           ·rw [if_neg c2, if_pos (by omega)]
            exact go _
        by_cases h128 : rd l (i + 2) > 128
        ·rw [if_pos h128]; exact last _ _ _ _ _ _ _ _
        ·rw [if_neg h128]; exact last _ _ _ _ _ _ _ _
      by_cases h200 : rd l i > 200
      ·rw [if_pos h200]
       by_cases h20 : (acks.length : Int) < 20
       ·rw [show decide ((acks.length : Int) < 20) = true from decide_eq_true h20]; exact hack
       ·rw [show decide ((acks.length : Int) < 20) = false from decide_eq_false h20]; exact hque
      ·rw [if_neg h200]; exact hque
   ·exact out _ (decide_eq_false h66)
  ·rw [if_neg hlt]
   exact out _ rfl
theorem sub_some (k : Nat) (hk : 300 ≤ k) (l : List Int) (hb : Bytes l) (hl : l.length ≤ 1000) (id cl nx : Int) (hn : nx ≠ 0) : ∃ r, roadsteadlaw10_Sub.f k l id cl nx = some r ∧ r.1 = id := by
 obtain ⟨g0, e0, b0⟩ := g_some l hb 0 (by omega)
 obtain ⟨g1, e1, b1⟩ := g_some l hb 1 (by omega)
 obtain ⟨g2, e2, b2⟩ := g_some l hb 2 (by omega)
 obtain ⟨g3, e3, b3⟩ := g_some l hb 3 (by omega)
 obtain ⟨g4, e4, b4⟩ := g_some l hb 4 (by omega)
 obtain ⟨g5, e5, b5⟩ := g_some l hb 5 (by omega)
 obtain ⟨t0, f0, h0⟩ := text_some k g0 19 (by omega) (by omega) (by omega) (by omega)
 obtain ⟨t5, f5, h5⟩ := text_some k g5 30 (by omega) (by omega) (by omega) (by omega)
 have m1 : Int.tmod g1 4 = g1 % 4 := Int.tmod_eq_emod_of_nonneg b1.1
 have m2 : Int.tdiv g1 4 = g1 / 4 := Int.tdiv_eq_ediv_of_nonneg b1.1
 have m3 : wrap64 (g1 / 4) = g1 / 4 := w64 _ (by omega)
 have m4 : Int.tmod (g1 / 4) 3 = g1 / 4 % 3 := Int.tmod_eq_emod_of_nonneg (by omega)
 have m5 : Int.tmod g3 9 = g3 % 9 := Int.tmod_eq_emod_of_nonneg b3.1
 have m6 : wrap64 (g2 * 3) = g2 * 3 := w64 _ (by omega)
 have m7 : wrap64 (1 + g2 * 3) = 1 + g2 * 3 := w64 _ (by omega)
 have m8 : wrap64 (1 + g3 % 9) = 1 + g3 % 9 := w64 _ (by omega)
 obtain ⟨k, rfl⟩ : ∃ m, k = m + 1 := ⟨k - 1, by omega⟩
 unfold roadsteadlaw10_Sub.f
 rw [e0, Option.bind_some, f0, Option.bind_some, if_pos (by omega), Option.bind_some, e1, Option.bind_some, m1, if_pos (by omega), if_pos (by simp; omega), Option.bind_some, Option.bind_some, m2, m3, m4, if_pos (by omega), if_pos (by simp; omega), e2, Option.bind_some, e3, Option.bind_some, e4, Option.bind_some, if_neg hn, e5, Option.bind_some, m5, m6, m7, m8]
 have go : ∀ s1 s2 s3 fl note, ∃ r, roadsteadlaw10_Sub.j0 (k + 1) l cl nx id s1 s2 s3 (1 + g2 * 3) (1 + g3 % 9) fl note = some r ∧ r.1 = id := by
  intro s1 s2 s3 fl note
  rw [roadsteadlaw10_Sub.j0]
  exact sub_l0 l hb hl cl nx id s1 s2 s3 _ _ fl note (by omega) (by omega) 20 k fl 6 [] [] (by omega) (by omega) (by omega) (by omega) (by simp) (by simp)
 by_cases h120 : g5 > 120
 ·rw [if_pos h120, Option.bind_some, f5, Option.bind_some]
  exact go _ _ _ _ _
 ·rw [if_neg h120]
  exact go _ _ _ _ _
/-- A list with one put in, ahead of the first whose number is greater. -/
def insL (x : S46) : List S46 → List S46
 | [] => [x]
 | y :: ys => if y.f0 > x.f0 then x :: y :: ys else y :: insL x ys
def others (id : Int) (l : List S46) : List S46 := l.filter fun y => decide (y.f0 ≠ id)
def putL (x : S46) (l : List S46) : List S46 := insL x (others x.f0 l)
theorem insL_perm (x : S46) : ∀ l, (insL x l).Perm (x :: l)
 | [] => List.Perm.refl _
 | y :: ys => by
  unfold insL
  by_cases h : y.f0 > x.f0
  ·rw [if_pos h]
  ·rw [if_neg h]
   exact ((insL_perm x ys).cons y).trans (List.Perm.swap x y ys)
theorem drop_at (l : List S46) (i : Nat) (h : i < l.length) : l.drop i = rd_T46 l i :: l.drop (i + 1) := by
 rw [List.drop_eq_getElem_cons h]
 congr 1
 simp [rd_T46, List.getD, h]
theorem without_l0 (id c n la : Int) (l : List S46) (hl : l.length ≤ 1000) : ∀ (d k i : Nat) (out : List S46), l.length - i ≤ d → d < k → i ≤ l.length → out.length ≤ i → roadsteadref10_Without.l0 k id out i c n la l = some (c, n, la, out ++ others id (l.drop i))
 | d, k + 1, i, out, hd, hk, hi, ho => by
  rw [roadsteadref10_Without.l0]
  by_cases hlt : i < l.length
  ·have e : wrap64 ((i : Int) + 1) = ((i + 1 : Nat) : Int) := by rw [w64 _ (by omega)]; omega
   rw [if_pos (by omega), if_pos (by omega), e, drop_at l i hlt]
   cases d with
   | zero => omega
   | succ d =>
    by_cases hid : (rd_T46 l i).f0 = id
    ·rw [if_pos hid, without_l0 id c n la l hl d k (i + 1) out (by omega) (by omega) (by omega) (by omega)]
     simp [others, hid]
    ·rw [if_neg hid, if_pos (by omega), without_l0 id c n la l hl d k (i + 1) _ (by omega) (by omega) (by omega) (by simp; omega)]
     simp [others, hid]
  ·rw [if_neg (by omega)]
   have : i = l.length := by omega
   subst this
   simp [others]
theorem put_l0 (c n la : Int) (s0 : List S46) (x : S46) (c2 n2 la2 : Int) (l : List S46) (hl : l.length ≤ 1000) : ∀ (d k i : Nat) (b : Bool) (out : List S46), l.length - i ≤ d → d < k → i ≤ l.length → out.length + (if b = true then 0 else 1) ≤ i + 1 →
 roadsteadref10_Put.l0 k out b i c n la s0 x.f0 x.f1 x.f2 x.f3 x.f4 x.f5 x.f6 x.f7 x.f8 x.f9 c2 n2 la2 l = some (c, n, la, out ++ if b = true then l.drop i else insL x (l.drop i))
 | d, k + 1, i, b, out, hd, hk, hi, ho => by
  rw [roadsteadref10_Put.l0]
  by_cases hlt : i < l.length
  ·have e : wrap64 ((i : Int) + 1) = ((i + 1 : Nat) : Int) := by rw [w64 _ (by omega)]; omega
   rw [if_pos (by omega), e, drop_at l i hlt]
   cases d with
   | zero => omega
   | succ d =>
    cases b with
    | true =>
     simp only [if_true] at ho
     rw [if_pos rfl, if_pos (by omega), if_pos (by omega), put_l0 c n la s0 x c2 n2 la2 l hl d k (i + 1) true _ (by omega) (by omega) (by omega) (by simp; omega)]
     simp
    | false =>
     simp only [Bool.false_eq_true, if_false] at ho
     rw [if_neg (by decide), if_pos (by omega)]
     by_cases hg : (rd_T46 l i).f0 > x.f0
     ·rw [if_pos hg, if_pos (by omega), Option.bind_some, if_pos (by simp; omega), put_l0 c n la s0 x c2 n2 la2 l hl d k (i + 1) true _ (by omega) (by omega) (by omega) (by simp; omega)]
      simp [insL, hg]
     ·rw [if_neg hg, if_pos (by omega), put_l0 c n la s0 x c2 n2 la2 l hl d k (i + 1) false _ (by omega) (by omega) (by omega) (by simp; omega)]
      simp [insL, hg]
  ·rw [if_neg (by omega)]
   have : i = l.length := by omega
   subst this
   cases b with
   | true => rw [if_pos rfl]; simp
   | false => simp only [Bool.false_eq_true, if_false] at ho; rw [if_neg (by decide), if_pos (by omega)]; simp [insL]
theorem put_pure (k : Nat) (c n la : Int) (l : List S46) (x : S46) (hl : l.length ≤ 500) (hk : 1000 ≤ k) :
 roadsteadref10_Put.f k c n la l x.f0 x.f1 x.f2 x.f3 x.f4 x.f5 x.f6 x.f7 x.f8 x.f9 = some (c, n, la, putL x l) := by
 unfold roadsteadref10_Put.f roadsteadref10_Without.f
 have h1 := without_l0 x.f0 c n la l (by omega) l.length k 0 [] (by omega) (by omega) (by omega) (by simp)
 simp only [List.drop_zero, List.nil_append, Int.ofNat_zero] at h1
 have h2 := put_l0 c n la l x c n la (others x.f0 l) (by have := List.length_filter_le (fun y : S46 => decide (y.f0 ≠ x.f0)) l; unfold others; omega) (others x.f0 l).length k 0 false [] (by omega) (by have := List.length_filter_le (fun y : S46 => decide (y.f0 ≠ x.f0)) l; unfold others; omega) (by omega) (by simp)
 simp only [List.drop_zero, List.nil_append, Int.ofNat_zero, Bool.false_eq_true, if_false] at h2
 rw [h1, Option.bind_some]
 exact h2
/-- Subscriptions whose numbers are above 0, each another. -/
def Fine (m : Nat) (l : List S46) : Prop := l.length ≤ m ∧ (∀ y ∈ l, 1 ≤ y.f0 ∧ y.f0 ≤ 100) ∧ (l.map (·.f0)).Nodup
theorem fine_put (m : Nat) (l : List S46) (x : S46) (h : Fine m l) (hx : 1 ≤ x.f0 ∧ x.f0 ≤ 100) : Fine (m + 1) (putL x l) := by
 obtain ⟨h1, h2, h3⟩ := h
 have hp := insL_perm x (others x.f0 l)
 have hle : (others x.f0 l).length ≤ l.length := List.length_filter_le _ _
 refine ⟨?_, ?_, ?_⟩
 ·have := hp.length_eq
  unfold putL
  simp at this
  omega
 ·intro y hy
  have := hp.mem_iff.1 hy
  rcases List.mem_cons.1 this with rfl | h
  ·exact hx
  ·exact h2 y (List.mem_filter.1 h).1
 ·have := (hp.map (·.f0)).nodup_iff
  unfold putL
  rw [this, List.map_cons, List.nodup_cons]
  refine ⟨?_, ?_⟩
  ·intro hm
   obtain ⟨y, hy, he⟩ := List.mem_map.1 hm
   have := (List.mem_filter.1 hy).2
   simp at this
   exact this he
  ·exact List.Nodup.sublist (List.Sublist.map _ List.filter_sublist) h3
theorem bytes_sub (l : List Int) (hb : Bytes l) (a b : Nat) : Bytes ((l.take b).drop a) := by
 intro i
 have h := hb ((a + i.toNat : Nat) : Int)
 simp only [rd, List.getD, List.getElem?_drop, Int.toNat_natCast] at h ⊢
 rw [List.getElem?_take]
 by_cases c : a + i.toNat < b
 ·rw [if_pos c]; exact h
 ·rw [if_neg c]; simp
theorem state_l0 (c : List Int) (hb : Bytes c) (s0 s1 s2 : Int) (h1 : s1 ≠ 0) (h2 : 0 ≤ s2 ∧ s2 ≤ 7) : ∀ (d k i : Nat) (l : List S46), 6 - i ≤ d → 2 * d + 1100 ≤ k → i ≤ 6 → Fine i l →
 ∃ r, roadsteadlaw10_State.l0 k c i s0 s1 s2 l = some r ∧ Fine 6 r.2.2.2
 | d, k + 1, i, l, hd, hk, hi, hf => by
  obtain ⟨k, rfl⟩ : ∃ m, k = m + 1 := ⟨k - 1, by omega⟩
  have h6 : Fine 6 l := ⟨Nat.le_trans hf.1 hi, hf.2⟩
  have stop : ∃ r, roadsteadlaw10_State.j1 (k + 1) c i false s0 s1 s2 l = some r ∧ Fine 6 r.2.2.2 := by
   rw [roadsteadlaw10_State.j1, if_neg (by decide)]
   exact ⟨_, rfl, h6⟩
  rw [roadsteadlaw10_State.l0]
  by_cases hlt : (i : Int) < 6
  ·rw [if_pos hlt]
   by_cases hp : s2 > 0
   ·rw [show decide (s2 > 0) = true from decide_eq_true hp, roadsteadlaw10_State.j1, if_pos rfl]
    have e24 : wrap64 (24 * (i : Int)) = 24 * (i : Int) := w64 _ (by omega)
    have e3 : wrap64 (3 + 24 * (i : Int)) = 3 + 24 * (i : Int) := w64 _ (by omega)
    have e27 : wrap64 (27 + 24 * (i : Int)) = 27 + 24 * (i : Int) := w64 _ (by omega)
    have ei : wrap64 ((i : Int) + 1) = ((i + 1 : Nat) : Int) := by rw [w64 _ (by omega)]; omega
    rw [e24, e3, e27, ei]
    obtain ⟨a, ha⟩ : ∃ a, mn (c.length : Int) (3 + 24 * (i : Int)) = a := ⟨_, rfl⟩
    obtain ⟨b, hb2⟩ : ∃ b, mn (c.length : Int) (27 + 24 * (i : Int)) = b := ⟨_, rfl⟩
    rw [ha, hb2]
    have hab : 0 ≤ a ∧ a ≤ b ∧ b ≤ c.length ∧ b ≤ a + 24 ∧ a ≤ c.length := by
     unfold mn at ha hb2
     split at ha <;> split at hb2 <;> omega
    by_cases he : a = b
    ·rw [if_pos he]
     exact ⟨_, rfl, h6⟩
    ·have hra := hb a
     have em : Int.tmod (wrap64 (rd c a)) s2 = rd c a % s2 := by
      rw [w64 _ (by omega)]
      exact Int.tmod_eq_emod_of_nonneg hra.1
     have hm := Int.emod_lt_of_pos (rd c a) hp
     have hm0 := Int.emod_nonneg (rd c a) (show s2 ≠ 0 by omega)
     rw [if_neg he, if_pos (by omega), if_pos (by omega), if_neg (by omega), if_pos (by omega), if_pos (by omega), em, w64 (1 + rd c a % s2) (by omega)]
     obtain ⟨x, hx, hid⟩ := sub_some k (by omega) ((c.take b.toNat).drop a.toNat) (bytes_sub c hb _ _) (by rw [List.length_drop, List.length_take]; omega) (1 + rd c a % s2) s0 s1 h1
     rw [hx, Option.bind_some]
     have hput := put_pure k s0 s1 s2 l ⟨x.1, x.2.1, x.2.2.1, x.2.2.2.1, x.2.2.2.2.1, x.2.2.2.2.2.1, x.2.2.2.2.2.2.1, x.2.2.2.2.2.2.2.1, x.2.2.2.2.2.2.2.2.1, x.2.2.2.2.2.2.2.2.2⟩ (by have := hf.1; omega) (by omega)
     simp only at hput
     rw [hput, Option.bind_some]
     cases d with
     | zero => omega
     | succ d => exact state_l0 c hb s0 s1 s2 h1 h2 d k (i + 1) _ (by omega) (by omega) (by omega) (fine_put i l _ hf (by simp only [hid]; omega))
   ·rw [show decide (s2 > 0) = false from decide_eq_false hp]; exact stop
  ·rw [if_neg hlt]; exact stop
theorem state_some (c : List Int) (hb : Bytes c) (k : Nat) (hk : 1200 ≤ k) : ∃ r, roadsteadlaw10_State.f k c = some r ∧ Fine 6 r.2.2.2 := by
 obtain ⟨g0, e0, b0⟩ := g_some c hb 0 (by omega)
 obtain ⟨g1, e1, b1⟩ := g_some c hb 1 (by omega)
 obtain ⟨g2, e2, b2⟩ := g_some c hb 2 (by omega)
 have m2 : Int.tdiv g1 4 = g1 / 4 := Int.tdiv_eq_ediv_of_nonneg b1.1
 have m3 : Int.tmod g2 8 = g2 % 8 := Int.tmod_eq_emod_of_nonneg b2.1
 unfold roadsteadlaw10_State.f
 rw [e0, Option.bind_some, e1, Option.bind_some, e2, Option.bind_some, m2, m3, w64 (g1 / 4) (by omega), w64 (1 + g1 / 4) (by omega)]
 exact state_l0 c hb _ _ _ (by omega) (by omega) 6 k 0 [] (by omega) (by omega) (by omega) ⟨by simp, by simp, by simp⟩
end Go.Proofs.Ytajfefjmfelnbaa
