/- Archives, chunk by chunk: plain laws over lists, whatever the sum of four and the digest of 32 are. -/
namespace ChunkPure
structure Sums where
  sum : List Int → List Int
  dig : List Int → List Int
  hs : ∀ l, (sum l).length = 4
  hd : ∀ l, (dig l).length = 32
variable (Z : Sums)
def sealL (l : List Int) : List Int := l ++ Z.sum l
def Right (l : List Int) : Prop := 4 ≤ l.length ∧ Z.sum (l.take (l.length - 4)) = l.drop (l.length - 4)
instance (l : List Int) : Decidable (Right Z l) := inferInstanceAs (Decidable (_ ∧ _))
def be4 (n : Nat) : List Int := [(n / 16777216 : Nat), (n / 65536 % 256 : Nat), (n / 256 % 256 : Nat), (n % 256 : Nat)]
def mark : List Int := [82, 83, 65, 49]
def head (n : Nat) : List Int := sealL Z (mark ++ be4 n)
def part (i : Nat) (c : List Int) : List Int := sealL Z (((i / 256 : Nat) : Int) :: ((i % 256 : Nat) : Int) :: ((c.length : Nat) : Int) :: c)
def parts : Nat → Nat → List Int → List (List Int)
  | 0, _, _ => []
  | d + 1, i, l => if l = [] then [] else part Z i (l.take 100) :: parts d (i + 1) (l.drop 100)
def front (b : List Int) : List Int := head Z b.length ++ (parts Z b.length 0 b).flatten
def wrap (b : List Int) : List Int := front Z b ++ Z.dig (front Z b)
/-- The chunks: how many bytes are to come; what came, the rest; or the error. -/
def chunks : Nat → Nat → Nat → List Int → Except Nat (List Int × List Int)
  | 0, _, _, rest => .ok ([], rest)
  | d + 1, i, m, rest =>
    if m = 0 then .ok ([], rest)
    else if rest.length < min m 100 + 7 then .error 10
    else if ¬ Right Z (rest.take (min m 100 + 7)) then .error 12
    else if (rest.getD 0 0) * 256 + rest.getD 1 0 ≠ i ∨ rest.getD 2 0 ≠ (min m 100 : Nat) then .error 11
    else match chunks d (i + 1) (m - min m 100) (rest.drop (min m 100 + 7)) with
      | .ok (out, r) => .ok ((rest.drop 3).take (min m 100) ++ out, r)
      | .error e => .error e
def num (b : List Int) : Int := 16777216 * b.getD 4 0 + 65536 * b.getD 5 0 + 256 * b.getD 6 0 + b.getD 7 0
def unwrap (b : List Int) : Except Nat (List Int) :=
  if b.length < 12 then .error 10
  else if ¬ Right Z (b.take 12) then .error 12
  else if b.take 4 ≠ mark then .error 11
  else if num b > 1048576 then .error 3
  else match chunks Z (num b).toNat 0 (num b).toNat (b.drop 12) with
    | .error e => .error e
    | .ok (out, rest) =>
      if rest.length < 32 then .error 10
      else if Z.dig (b.take (b.length - rest.length)) ≠ rest.take 32 then .error 12
      else if rest.length > 32 then .error 11
      else .ok out
theorem right_seal (l : List Int) : Right Z (sealL Z l) := by
  unfold Right sealL
  rw [List.length_append, Z.hs]
  refine ⟨by omega, ?_⟩
  rw [Nat.add_sub_cancel, List.take_left, List.drop_left]
theorem seal_length (l : List Int) : (sealL Z l).length = l.length + 4 := by unfold sealL; rw [List.length_append, Z.hs]
theorem head_length (n : Nat) : (head Z n).length = 12 := by unfold head; rw [seal_length]; simp [mark, be4]
theorem part_length (i : Nat) (c : List Int) : (part Z i c).length = c.length + 7 := by unfold part; rw [seal_length]; simp
theorem part_facts (i : Nat) (c t : List Int) : (part Z i c ++ t).take (c.length + 7) = part Z i c ∧ (part Z i c ++ t).drop (c.length + 7) = t ∧ (part Z i c ++ t).getD 0 0 = (i / 256 : Nat) ∧ (part Z i c ++ t).getD 1 0 = (i % 256 : Nat) ∧ (part Z i c ++ t).getD 2 0 = (c.length : Nat) ∧ ((part Z i c ++ t).drop 3).take c.length = c := by
  have hl := part_length Z i c
  refine ⟨by rw [← hl, List.take_left], by rw [← hl, List.drop_left], ?_, ?_, ?_, ?_⟩
  · simp [part, sealL, List.getD]
  · simp [part, sealL, List.getD]
  · simp [part, sealL, List.getD]
  · simp [part, sealL, List.append_assoc]
/-- The chunks of what was put in are read. -/
theorem chunks_parts : ∀ (d d2 i : Nat) (l t : List Int), l.length ≤ d → l.length ≤ d2 → chunks Z d i l.length ((parts Z d2 i l).flatten ++ t) = .ok (l, t)
  | 0, d2, i, l, t, h, h2 => by
    have : l = [] := List.length_eq_zero_iff.1 (by omega)
    subst this
    cases d2 <;> simp [chunks, parts]
  | d + 1, d2, i, l, t, h, h2 => by
    by_cases hl : l = []
    · subst hl
      cases d2 <;> simp [chunks, parts]
    · have hp : 0 < l.length := List.length_pos_iff.2 hl
      cases d2 with
      | zero => omega
      | succ d2 =>
        have hm : min l.length 100 = (l.take 100).length := by rw [List.length_take]; omega
        rw [parts, if_neg hl, List.flatten_cons, List.append_assoc]
        obtain ⟨f1, f2, f3, f4, f5, f6⟩ := part_facts Z i (l.take 100) ((parts Z d2 (i + 1) (l.drop 100)).flatten ++ t)
        rw [chunks, if_neg (by omega), hm, if_neg (by rw [List.length_append, part_length]; omega), f1, if_neg (fun h => h (right_seal Z _)), f3, f4, f5, if_neg (by omega), f2, f6]
        have hd : l.length - (l.take 100).length = (l.drop 100).length := by rw [List.length_take, List.length_drop]; omega
        rw [hd, chunks_parts d d2 (i + 1) (l.drop 100) t (by rw [List.length_drop]; omega) (by rw [List.length_drop]; omega)]
        simp [List.take_append_drop]
theorem num_head (n : Nat) (t : List Int) : num (head Z n ++ t) = n := by
  simp [num, head, sealL, mark, be4, List.getD]
  omega
theorem front_facts (b t : List Int) : (front Z b ++ t).take 12 = head Z b.length ∧ (front Z b ++ t).drop 12 = (parts Z b.length 0 b).flatten ++ t ∧ (front Z b ++ t).take 4 = mark ∧ num (front Z b ++ t) = b.length := by
  have hl := head_length Z b.length
  unfold front
  rw [List.append_assoc]
  refine ⟨by rw [← hl, List.take_left], by rw [← hl, List.drop_left], ?_, num_head Z _ _⟩
  simp [head, sealL, mark]
/-- Whatever comes behind the chunks. -/
theorem unwrap_front (b t : List Int) (h : b.length ≤ 1048576) : unwrap Z (front Z b ++ t) = if t.length < 32 then .error 10 else if Z.dig (front Z b) ≠ t.take 32 then .error 12 else if t.length > 32 then .error 11 else .ok b := by
  obtain ⟨f1, f2, f3, f4⟩ := front_facts Z b t
  have hl : 12 ≤ (front Z b ++ t).length := by
    have := head_length Z b.length
    unfold front
    simp only [List.length_append]
    omega
  unfold unwrap
  rw [if_neg (by omega), f1, if_neg (fun h => h (right_seal Z _)), f3, if_neg (by simp), f4, if_neg (by omega), f2]
  simp only [Int.toNat_natCast]
  rw [chunks_parts Z _ _ _ _ _ (Nat.le_refl _) (Nat.le_refl _)]
  simp only
  rw [show (front Z b ++ t).length - t.length = (front Z b).length by rw [List.length_append]; omega, List.take_left]
theorem unwrap_wrap (b : List Int) (h : b.length ≤ 1048576) : unwrap Z (wrap Z b) = .ok b := by
  unfold wrap
  rw [unwrap_front Z b _ h, Z.hd, if_neg (by omega), if_neg (by rw [List.take_of_length_le (by rw [Z.hd]; exact Nat.le_refl _)]; simp), if_neg (by omega)]
theorem unwrap_more (b : List Int) (x : Int) (h : b.length ≤ 1048576) : unwrap Z (wrap Z b ++ [x]) = .error 11 := by
  unfold wrap
  have hd := Z.hd (front Z b)
  rw [List.append_assoc, unwrap_front Z b _ h, List.length_append, hd, if_neg (by simp), if_neg (by rw [← hd, List.take_left]; simp), if_pos (by simp)]
/-- What is read tells how long it was. -/
theorem chunks_length : ∀ (d i m : Nat) (rest out r : List Int), m ≤ d → chunks Z d i m rest = .ok (out, r) → rest.length = r.length + m + 7 * ((m + 99) / 100) ∧ out.length = m
  | 0, i, m, rest, out, r, hm, h => by
    obtain rfl : m = 0 := by omega
    rw [chunks] at h
    injection h with h
    injection h with h1 h2
    subst h1 h2
    simp
  | d + 1, i, m, rest, out, r, hm, h => by
    rw [chunks] at h
    by_cases h0 : m = 0
    · subst h0
      rw [if_pos rfl] at h
      injection h with h
      injection h with h1 h2
      subst h1 h2
      simp
    · rw [if_neg h0] at h
      by_cases h1 : rest.length < min m 100 + 7
      · rw [if_pos h1] at h; cases h
      · rw [if_neg h1] at h
        by_cases h2 : Right Z (rest.take (min m 100 + 7))
        · rw [if_neg (fun hh => hh h2)] at h
          split at h
          · cases h
          · cases hc : chunks Z d (i + 1) (m - min m 100) (rest.drop (min m 100 + 7)) with
            | error e => rw [hc] at h; cases h
            | ok y =>
              obtain ⟨o2, r2⟩ := y
              rw [hc] at h
              simp only at h
              injection h with h
              injection h with h3 h4
              subst h3 h4
              obtain ⟨e1, e2⟩ := chunks_length d (i + 1) (m - min m 100) _ o2 r2 (by omega) hc
              rw [List.length_drop] at e1
              refine ⟨?_, ?_⟩
              · have : (m + 99) / 100 = (m - min m 100 + 99) / 100 + 1 := by omega
                omega
              · rw [List.length_append, List.length_take, List.length_drop, e2]; omega
        · rw [if_pos h2] at h; cases h
theorem unwrap_length (x out : List Int) (h : unwrap Z x = .ok out) : x.length = 12 + (num x).toNat + 7 * (((num x).toNat + 99) / 100) + 32 ∧ out.length = (num x).toNat := by
  unfold unwrap at h
  by_cases h1 : x.length < 12
  · rw [if_pos h1] at h; cases h
  · rw [if_neg h1] at h
    split at h
    · cases h
    · split at h
      · cases h
      · split at h
        · cases h
        · cases hc : chunks Z (num x).toNat 0 (num x).toNat (x.drop 12) with
          | error e => rw [hc] at h; cases h
          | ok y =>
            obtain ⟨o, r⟩ := y
            rw [hc] at h
            simp only at h
            obtain ⟨e1, e2⟩ := chunks_length Z _ _ _ _ _ _ (Nat.le_refl _) hc
            rw [List.length_drop] at e1
            by_cases h5 : r.length < 32
            · rw [if_pos h5] at h; cases h
            · rw [if_neg h5] at h
              split at h
              · cases h
              · by_cases h7 : r.length > 32
                · rw [if_pos h7] at h; cases h
                · rw [if_neg h7] at h
                  injection h with h
                  subst h
                  exact ⟨by omega, e2⟩
theorem parts_length : ∀ (d i : Nat) (l : List Int), l.length ≤ d → ((parts Z d i l).flatten).length = l.length + 7 * ((l.length + 99) / 100)
  | 0, i, l, h => by
    have : l = [] := List.length_eq_zero_iff.1 (by omega)
    subst this
    simp [parts]
  | d + 1, i, l, h => by
    by_cases hl : l = []
    · subst hl; simp [parts]
    · have hp : 0 < l.length := List.length_pos_iff.2 hl
      rw [parts, if_neg hl, List.flatten_cons, List.length_append, part_length, parts_length d (i + 1) _ (by rw [List.length_drop]; omega), List.length_take, List.length_drop]
      omega
theorem wrap_length (b : List Int) : (wrap Z b).length = 12 + b.length + 7 * ((b.length + 99) / 100) + 32 := by
  unfold wrap front
  rw [List.length_append, List.length_append, head_length, parts_length Z _ _ _ (Nat.le_refl _), Z.hd]
  omega
theorem unwrap_cut (b : List Int) (m : Nat) (h : m < (wrap Z b).length) : ∃ e, unwrap Z ((wrap Z b).take m) = .error e := by
  cases hu : unwrap Z ((wrap Z b).take m) with
  | error e => exact ⟨e, rfl⟩
  | ok out =>
    exfalso
    obtain ⟨e1, _⟩ := unwrap_length Z _ _ hu
    rw [List.length_take] at e1
    have hw := wrap_length Z b
    by_cases hm : m < 12
    · omega
    · have hn : num ((wrap Z b).take m) = b.length := by
        have : (wrap Z b).take m = head Z b.length ++ (((parts Z b.length 0 b).flatten ++ Z.dig (front Z b)).take (m - 12)) := by
          have hl := head_length Z b.length
          conv => lhs; unfold wrap; rw [show front Z b = head Z b.length ++ (parts Z b.length 0 b).flatten from rfl]
          rw [List.append_assoc, List.take_append, hl, List.take_of_length_le (by omega)]
          rfl
        rw [this, num_head]
      rw [hn] at e1
      simp only [Int.toNat_natCast] at e1
      omega
/-- A piece that isn't right, behind some that are. -/
theorem chunks_bad : ∀ (A : List (List Int)) (d d2 i : Nat) (l p p2 t : List Int) (B : List (List Int)), l.length ≤ d → parts Z d2 i l = A ++ p :: B → p2.length = p.length → ¬ Right Z p2 → l.length ≤ d2 → ∃ e, chunks Z d i l.length (A.flatten ++ (p2 ++ t)) = .error e
  | A, d, 0, i, l, p, p2, t, B, h, hp, hl, hr, h2 => by simp [parts] at hp
  | A, 0, d2 + 1, i, l, p, p2, t, B, h, hp, hl, hr, h2 => by
    have : l = [] := List.length_eq_zero_iff.1 (by omega)
    subst this
    simp [parts] at hp
  | A, d + 1, d2 + 1, i, l, p, p2, t, B, h, hp, hl, hr, h2 => by
    rw [parts] at hp
    by_cases h0 : l = []
    · rw [if_pos h0] at hp; simp at hp
    · rw [if_neg h0] at hp
      have hpos : 0 < l.length := List.length_pos_iff.2 h0
      have hm : min l.length 100 = (l.take 100).length := by rw [List.length_take]; omega
      cases A with
      | nil =>
        simp only [List.nil_append] at hp
        injection hp with e1 e2
        have hpl : p2.length = (l.take 100).length + 7 := by rw [hl, ← e1, part_length]
        refine ⟨12, ?_⟩
        rw [chunks, if_neg (by omega), hm, if_neg (by simp [hpl]), if_pos (by rw [← hpl, List.flatten_nil, List.nil_append, List.take_left]; exact hr)]
      | cons a A =>
        simp only [List.cons_append] at hp
        injection hp with e1 e2
        subst e1
        have hd : l.length - (l.take 100).length = (l.drop 100).length := by rw [List.length_take, List.length_drop]; omega
        obtain ⟨e, he⟩ := chunks_bad A d d2 (i + 1) (l.drop 100) p p2 t B (by rw [List.length_drop]; omega) e2 hl hr (by rw [List.length_drop]; omega)
        obtain ⟨f1, f2, f3, f4, f5, f6⟩ := part_facts Z i (l.take 100) (A.flatten ++ (p2 ++ t))
        refine ⟨e, ?_⟩
        rw [List.flatten_cons, List.append_assoc, chunks, if_neg (by omega), hm, if_neg (by rw [List.length_append, part_length]; omega), f1, if_neg (fun h => h (right_seal Z _)), f3, f4, f5, if_neg (by omega), f2, f6, hd, he]
/-- A piece of another place. -/
theorem chunks_other : ∀ (A : List (List Int)) (d d2 i i2 : Nat) (l p c t : List Int) (B : List (List Int)), l.length ≤ d → parts Z d2 i l = A ++ p :: B → i2 ≠ i + A.length → l.length ≤ d2 → ∃ e, chunks Z d i l.length (A.flatten ++ (part Z i2 c ++ t)) = .error e
  | A, d, 0, i, i2, l, p, c, t, B, h, hp, hi, h2 => by simp [parts] at hp
  | A, 0, d2 + 1, i, i2, l, p, c, t, B, h, hp, hi, h2 => by
    have : l = [] := List.length_eq_zero_iff.1 (by omega)
    subst this
    simp [parts] at hp
  | A, d + 1, d2 + 1, i, i2, l, p, c, t, B, h, hp, hi, h2 => by
    rw [parts] at hp
    by_cases h0 : l = []
    · rw [if_pos h0] at hp; simp at hp
    · rw [if_neg h0] at hp
      have hpos : 0 < l.length := List.length_pos_iff.2 h0
      have hm : min l.length 100 = (l.take 100).length := by rw [List.length_take]; omega
      cases A with
      | nil =>
        obtain ⟨f1, f2, f3, f4, f5, f6⟩ := part_facts Z i2 c t
        simp only [List.flatten_nil, List.nil_append]
        rw [chunks, if_neg (by omega)]
        split
        · exact ⟨_, rfl⟩
        · split
          · exact ⟨_, rfl⟩
          · rw [f3, f4, if_pos (by left; simp at hi; omega)]
            exact ⟨_, rfl⟩
      | cons a A =>
        simp only [List.cons_append] at hp
        injection hp with e1 e2
        subst e1
        have hd : l.length - (l.take 100).length = (l.drop 100).length := by rw [List.length_take, List.length_drop]; omega
        obtain ⟨e, he⟩ := chunks_other A d d2 (i + 1) i2 (l.drop 100) p c t B (by rw [List.length_drop]; omega) e2 (by simp at hi; omega) (by rw [List.length_drop]; omega)
        obtain ⟨f1, f2, f3, f4, f5, f6⟩ := part_facts Z i (l.take 100) (A.flatten ++ (part Z i2 c ++ t))
        refine ⟨e, ?_⟩
        rw [List.flatten_cons, List.append_assoc, chunks, if_neg (by omega), hm, if_neg (by rw [List.length_append, part_length]; omega), f1, if_neg (fun h => h (right_seal Z _)), f3, f4, f5, if_neg (by omega), f2, f6, hd, he]
theorem chunks_errors : ∀ (d i m : Nat) (rest : List Int) (e : Nat), chunks Z d i m rest = .error e → e = 10 ∨ e = 11 ∨ e = 12
  | 0, i, m, rest, e, h => by rw [chunks] at h; cases h
  | d + 1, i, m, rest, e, h => by
    rw [chunks] at h
    split at h
    · cases h
    · split at h
      · injection h with h; omega
      · split at h
        · injection h with h; omega
        · split at h
          · injection h with h; omega
          · cases hc : chunks Z d (i + 1) (m - min m 100) (rest.drop (min m 100 + 7)) with
            | error e2 =>
              rw [hc] at h
              injection h with h
              subst h
              exact chunks_errors d _ _ _ _ hc
            | ok y => obtain ⟨o, r⟩ := y; rw [hc] at h; cases h
theorem unwrap_errors (x : List Int) (e : Nat) (h : unwrap Z x = .error e) : e = 10 ∨ e = 11 ∨ e = 12 ∨ e = 3 := by
  unfold unwrap at h
  split at h
  · injection h with h; omega
  · split at h
    · injection h with h; omega
    · split at h
      · injection h with h; omega
      · split at h
        · injection h with h; omega
        · cases hc : chunks Z (num x).toNat 0 (num x).toNat (x.drop 12) with
          | error e2 =>
            rw [hc] at h
            injection h with h
            subst h
            have := chunks_errors Z _ _ _ _ _ hc
            omega
          | ok y =>
            obtain ⟨o, r⟩ := y
            rw [hc] at h
            simp only at h
            split at h
            · injection h with h; omega
            · split at h
              · injection h with h; omega
              · split at h
                · injection h with h; omega
                · cases h
theorem unwrap_bad_head (p t : List Int) (hp : p.length = 12) (hr : ¬ Right Z p) : unwrap Z (p ++ t) = .error 12 := by
  unfold unwrap
  rw [if_neg (by rw [List.length_append]; omega), if_pos (by rw [← hp, List.take_left]; exact hr)]
/-- Behind the head of an archive: what its chunks say. -/
theorem unwrap_head (n : Nat) (hn : n ≤ 1048576) (y : List Int) (e : Nat) (h : chunks Z n 0 n y = .error e) : unwrap Z (head Z n ++ y) = .error e := by
  have hl := head_length Z n
  unfold unwrap
  rw [if_neg (by rw [List.length_append]; omega), show (head Z n ++ y).take 12 = head Z n by rw [← hl, List.take_left], if_neg (fun h => h (right_seal Z _)), show (head Z n ++ y).take 4 = mark by simp [head, sealL, mark], if_neg (by simp), num_head, if_neg (by omega), show (head Z n ++ y).drop 12 = y by rw [← hl, List.drop_left]]
  simp only [Int.toNat_natCast]
  rw [h]
theorem unwrap_bad_part (b : List Int) (hb : b.length ≤ 1048576) (A B : List (List Int)) (p p2 t : List Int) (hp : parts Z b.length 0 b = A ++ p :: B) (hl : p2.length = p.length) (hr : ¬ Right Z p2) : ∃ e, unwrap Z (head Z b.length ++ (A.flatten ++ (p2 ++ t))) = .error e := by
  obtain ⟨e, he⟩ := chunks_bad Z A b.length b.length 0 b p p2 t B (Nat.le_refl _) hp hl hr (Nat.le_refl _)
  exact ⟨e, unwrap_head Z _ hb _ _ he⟩
theorem unwrap_other (b : List Int) (hb : b.length ≤ 1048576) (A B : List (List Int)) (p c t : List Int) (i2 : Nat) (hp : parts Z b.length 0 b = A ++ p :: B) (hi : i2 ≠ A.length) : ∃ e, unwrap Z (head Z b.length ++ (A.flatten ++ (part Z i2 c ++ t))) = .error e := by
  obtain ⟨e, he⟩ := chunks_other Z A b.length b.length 0 i2 b p c t B (Nat.le_refl _) hp (by omega) (Nat.le_refl _)
  exact ⟨e, unwrap_head Z _ hb _ _ he⟩
theorem parts_count : ∀ (d i : Nat) (l : List Int), l.length ≤ d → (parts Z d i l).length = (l.length + 99) / 100
  | 0, i, l, h => by
    have : l = [] := List.length_eq_zero_iff.1 (by omega)
    subst this
    simp [parts]
  | d + 1, i, l, h => by
    by_cases hl : l = []
    · subst hl; simp [parts]
    · have hp : 0 < l.length := List.length_pos_iff.2 hl
      rw [parts, if_neg hl, List.length_cons, parts_count d (i + 1) _ (by rw [List.length_drop]; omega), List.length_drop]
      omega
theorem parts_get : ∀ (d i : Nat) (l : List Int) (j : Nat), l.length ≤ d → j < (l.length + 99) / 100 → (parts Z d i l)[j]? = some (part Z (i + j) ((l.drop (100 * j)).take 100))
  | 0, i, l, j, h, hj => by omega
  | d + 1, i, l, j, h, hj => by
    have hl : l ≠ [] := by intro e; subst e; simp at hj
    rw [parts, if_neg hl]
    cases j with
    | zero => simp
    | succ j =>
      rw [List.getElem?_cons_succ, parts_get d (i + 1) (l.drop 100) j (by rw [List.length_drop]; omega) (by rw [List.length_drop]; omega), List.drop_drop]
      rw [show i + 1 + j = i + (j + 1) by omega, show 100 + 100 * j = 100 * (j + 1) by omega]
/-- The pieces: the first, the chunks, the last. -/
def pieces (b : List Int) : List (List Int) := head Z b.length :: (parts Z b.length 0 b ++ [Z.dig (front Z b)])
theorem pieces_flatten (b : List Int) : (pieces Z b).flatten = wrap Z b := by
  simp [pieces, wrap, front]
theorem pieces_count (b : List Int) : (pieces Z b).length = 2 + (b.length + 99) / 100 := by
  simp [pieces, parts_count Z _ _ _ (Nat.le_refl b.length)]
  omega
/-- Of another length: no archive. -/
theorem unwrap_long (b y : List Int) (hb : b.length ≤ 1048576) (h : (head Z b.length ++ y).length ≠ (wrap Z b).length) : ∃ e, unwrap Z (head Z b.length ++ y) = .error e := by
  cases hu : unwrap Z (head Z b.length ++ y) with
  | error e => exact ⟨e, rfl⟩
  | ok out =>
    exfalso
    obtain ⟨e1, _⟩ := unwrap_length Z _ _ hu
    rw [num_head, Int.toNat_natCast] at e1
    have := wrap_length Z b
    omega
theorem split_at {α : Type} (L : List α) (i : Nat) (h : i < L.length) : L = L.take i ++ L[i] :: L.drop (i + 1) := by
  rw [← List.drop_eq_getElem_cons h, List.take_append_drop]
/-- Two chunks changed about. -/
theorem unwrap_swap (b : List Int) (hb : b.length ≤ 1048576) (i j : Nat) (hij : i < j) (hj : j < (parts Z b.length 0 b).length) (t : List Int) :
    ∃ e, unwrap Z (head Z b.length ++ ((((parts Z b.length 0 b).set i ((parts Z b.length 0 b)[j])).set j ((parts Z b.length 0 b)[i])).flatten ++ t)) = .error e := by
  have hcount := parts_count Z b.length 0 b (Nat.le_refl _)
  have hgj := parts_get Z b.length 0 b j (Nat.le_refl _) (by omega)
  rw [List.getElem?_eq_getElem hj] at hgj
  injection hgj with hgj
  have hsp := split_at (parts Z b.length 0 b) i (by omega)
  generalize hq : (parts Z b.length 0 b)[i] = p at *
  generalize hr : (parts Z b.length 0 b)[j] = q at *
  have hset : ((parts Z b.length 0 b).set i q).set j p = (parts Z b.length 0 b).take i ++ q :: (((parts Z b.length 0 b).drop (i + 1)).set (j - i - 1) p) := by
    have hl : ((parts Z b.length 0 b).take i).length = i := by rw [List.length_take]; omega
    conv => lhs; rw [hsp]
    rw [List.set_append_right _ _ (by omega), hl, Nat.sub_self, List.set_cons_zero, List.set_append_right _ _ (by omega), hl, show j - i = (j - i - 1) + 1 by omega, List.set_cons_succ]
    simp
  rw [hset, List.flatten_append, List.flatten_cons, List.append_assoc, List.append_assoc, hgj]
  refine unwrap_other Z b hb ((parts Z b.length 0 b).take i) _ p _ _ (0 + j) hsp ?_
  rw [List.length_take]
  omega
end ChunkPure
