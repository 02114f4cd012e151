/- The rows of a state, read back (plain). No condition. -/
import Derived.Test.YtobamidecbfgpaaGreatDoorRw
import Derived.Test.YtobamidecbfgpaaGreatDoorSl
/- The rows of a state in the order of their keys (plain). No condition. -/
namespace Go.Proofs.YtobamidecbfgpaaGreatDoor
open Go Go.Sh Go.RowKit
set_option linter.unusedVariables false
set_option linter.unusedSimpArgs false
set_option maxRecDepth 10000
/-- Two lists that rise, of the same members, are one. -/
theorem eq_of_rise {α : Type} (f : α → Nat) : ∀ (l l' : List α), l.Pairwise (fun a b => f a < f b) → l'.Pairwise (fun a b => f a < f b) → (∀ a, a ∈ l ↔ a ∈ l') → l = l'
  | [], [], _, _, _ => rfl
  | [], b :: r', _, _, h => absurd ((h b).2 List.mem_cons_self) (by simp)
  | a :: r, [], _, _, h => absurd ((h a).1 List.mem_cons_self) (by simp)
  | a :: r, b :: r', h1, h2, h => by
    rw [List.pairwise_cons] at h1 h2
    have hab : a = b := by
      rcases List.mem_cons.1 ((h a).1 List.mem_cons_self) with e | ha
      · exact e
      rcases List.mem_cons.1 ((h b).2 List.mem_cons_self) with e | hb
      · exact e.symm
      have q1 := h2.1 a ha
      have q2 := h1.1 b hb
      omega
    subst hab
    rw [eq_of_rise f r r' h1.2 h2.2 (fun c => ⟨fun hc => ?_, fun hc => ?_⟩)]
    · rcases List.mem_cons.1 ((h c).1 (List.mem_cons_of_mem _ hc)) with e | hc'
      · subst e; have := h1.1 c hc; omega
      · exact hc'
    · rcases List.mem_cons.1 ((h c).2 (List.mem_cons_of_mem _ hc)) with e | hc'
      · subst e; have := h2.1 c hc; omega
      · exact hc'
def kkey : Kr → Str := Row.key ∘ Kr.row
theorem gtB_num {r s : Kr} (hr : KrOK r) (hs : KrOK s) (hne : r.num ≠ s.num) : gtB (kkey r) (kkey s) = decide (s.num < r.num) := by
  have h1 : Op.bytesLess (kkey r) (kkey s) = decide (r.num < s.num) := key_less hr hs
  have h2 : (kkey r == kkey s) = false := by
    rw [beq_eq_false_iff_ne]
    exact fun e => hne (key_num hr hs e)
  unfold gtB
  rw [h1, h2, Bool.or_false]
  by_cases h : r.num < s.num
  · rw [decide_eq_true h, decide_eq_false (by omega)]; rfl
  · rw [decide_eq_false h, decide_eq_true (by omega)]; rfl
theorem posB_spec {α : Type} (key : α → Str) (r : Str) (o : List α) : ∀ k, k ≤ o.length → (∀ j (hj : j < o.length), posB key r o k ≤ j → j < k → gtB (key o[j]) r = true) ∧ ∀ p (hp : p < o.length), posB key r o k = p + 1 → ¬ gtB (key o[p]) r = true
  | 0, _ => ⟨fun j hj h1 h2 => by omega, fun p hp h => by cases h⟩
  | k + 1, hk => by
    have ih := posB_spec key r o k (by omega)
    rw [posB_succ key r o k (by omega)]
    by_cases hg : gtB (key (o[k]'(by omega))) r = true
    · rw [if_pos hg]
      refine ⟨fun j hj h1 h2 => ?_, ih.2⟩
      rcases Nat.lt_or_ge j k with h3 | h3
      · exact ih.1 j hj h1 h3
      · obtain rfl : j = k := by omega
        exact hg
    · rw [if_neg hg]
      refine ⟨fun j hj h1 h2 => by omega, fun p hp h => ?_⟩
      obtain rfl : k = p := by omega
      exact hg
def NumLt (l : List Kr) : Prop := l.Pairwise fun a b => a.num < b.num
theorem insB_rise {o : List Kr} {r : Kr} (ho : NumLt o) (hk : ∀ a ∈ o, KrOK a) (hr : KrOK r) (hn : ∀ a ∈ o, a.num ≠ r.num) : NumLt (insB kkey o r) := by
  have hsp := posB_spec kkey (kkey r) o o.length (Nat.le_refl _)
  have hle := posB_le kkey (kkey r) o o.length
  unfold insB
  obtain ⟨p, hp⟩ : ∃ p, p = posB kkey (kkey r) o o.length := ⟨_, rfl⟩
  rw [← hp] at hsp hle ⊢
  have hsplit : NumLt (o.take p ++ o.drop p) := by rw [List.take_append_drop]; exact ho
  unfold NumLt at hsplit ⊢
  rw [List.pairwise_append] at hsplit ⊢
  have hgt : ∀ b ∈ o.drop p, r.num < b.num := by
    intro b hb
    obtain ⟨j, hj, rfl⟩ := List.getElem_of_mem hb
    have hj' : p + j < o.length := by simp at hj; omega
    have hm := List.getElem_mem hj'
    rw [List.getElem_drop]
    have := hsp.1 (p + j) hj' (by omega) hj'
    rw [gtB_num (hk _ hm) hr (hn _ hm)] at this
    exact of_decide_eq_true this
  have hlt : ∀ a ∈ o.take p, a.num < r.num := by
    intro a ha
    obtain ⟨j, hj, rfl⟩ := List.getElem_of_mem ha
    have hj' : j < p ∧ j < o.length := by simp at hj; omega
    rw [List.getElem_take]
    obtain ⟨q, rfl⟩ : ∃ q, p = q + 1 := ⟨p - 1, by omega⟩
    have hq : q < o.length := by omega
    have hm := List.getElem_mem hq
    have h1 := hsp.2 q hq rfl
    rw [gtB_num (hk _ hm) hr (hn _ hm), decide_eq_true_eq] at h1
    have h2 := hn _ hm
    rcases Nat.lt_or_ge j q with h3 | h3
    · have := List.pairwise_iff_getElem.1 ho j q hj'.2 hq h3
      omega
    · obtain rfl : j = q := by omega
      omega
  refine ⟨hsplit.1, List.pairwise_cons.2 ⟨hgt, hsplit.2.1⟩, fun a ha b hb => ?_⟩
  rcases List.mem_cons.1 hb with rfl | hb
  · exact hlt a ha
  · exact hsplit.2.2 a ha b hb
theorem sortB_rise {l : List Kr} (hk : ∀ a ∈ l, KrOK a) (hn : l.Pairwise fun a b => a.num ≠ b.num) : NumLt (sortB kkey l) := by
  have key : ∀ (l o : List Kr), NumLt o → (∀ a ∈ o, KrOK a) → (∀ a ∈ l, KrOK a) → l.Pairwise (fun a b => a.num ≠ b.num) → (∀ a ∈ o, ∀ b ∈ l, a.num ≠ b.num) → NumLt (l.foldl (insB kkey) o) := by
    intro l
    induction l with
    | nil => exact fun o h _ _ _ _ => h
    | cons r l ih =>
      intro o h1 h2 h3 h4 h5
      rw [List.pairwise_cons] at h4
      have hm : ∀ a, a ∈ insB kkey o r → a = r ∨ a ∈ o := fun a ha => List.mem_cons.1 ((insB_perm kkey o r).mem_iff.1 ha)
      refine ih _ (insB_rise h1 h2 (h3 r List.mem_cons_self) (fun a ha => h5 a ha r List.mem_cons_self)) (fun a ha => ?_) (fun a ha => h3 a (List.mem_cons_of_mem _ ha)) h4.2 (fun a ha b hb => ?_)
      · rcases hm a ha with rfl | ha
        · exact h3 _ List.mem_cons_self
        · exact h2 a ha
      · rcases hm a ha with rfl | ha
        · exact h4.1 b hb
        · exact h5 a ha b (List.mem_cons_of_mem _ hb)
  exact key l [] .nil (fun a ha => by cases ha) hk hn (fun a ha => by cases ha)
/-- A row's key by its kind. -/
def tK : K → Nat
  | .ack _ => 97
  | .gaps => 97
  | .body _ => 98
  | .note => 110
  | .msg _ => 113
  | .sub => 115
  | .want => 119
  | .more _ => 120
def seqK : K → Nat
  | .ack a => a
  | .body m => m.seq
  | .msg m => m.seq
  | .more m => m.seq
  | _ => 0
def krK (v id : Nat) (ρ : K → Row) (k : K) : Kr := ⟨v, tK k, id, seqK k, (ρ k).val⟩
def kindsV (v : Nat) (x : Sub) : List K := if v = 1 then kinds12 x else if v = 2 then kinds13 x else kinds14 x
def rowV (v : Nat) (x : Sub) : K → Row := if v = 1 then row12 x else if v = 2 then row13 x else row14 x
def encK (v : Nat) (x : Sub) : List Kr := (kindsV v x).map (krK v x.id (rowV v x))
theorem mem_mz {q : List Msg} {k : K} (h : k ∈ q.flatMap mz) : ∃ m ∈ q, k = .more m := by
  obtain ⟨m, hm, h⟩ := List.mem_flatMap.1 h
  refine ⟨m, hm, ?_⟩
  unfold mz at h
  split at h
  · cases h
  · simpa using h
theorem mem12 {x : Sub} {k : K} (h : k ∈ kinds12 x) : (∃ a ∈ x.acks, k = .ack a) ∨ k = .note ∨ (∃ m ∈ x.queue, k = .msg m) ∨ k = .sub ∨ k = .want ∨ ∃ m ∈ x.queue, k = .more m := by
  simp only [kinds12, List.mem_append, List.mem_map, nz] at h
  rcases h with ((((⟨a, ha, rfl⟩ | h) | ⟨m, hm, rfl⟩) | h) | h) | h
  · exact .inl ⟨a, ha, rfl⟩
  · split at h
    · cases h
    · exact .inr (.inl (by simpa using h))
  · exact .inr (.inr (.inl ⟨m, hm, rfl⟩))
  · exact .inr (.inr (.inr (.inl (by simpa using h))))
  · split at h
    · cases h
    · exact .inr (.inr (.inr (.inr (.inl (by simpa using h)))))
  · exact .inr (.inr (.inr (.inr (.inr (mem_mz h)))))
theorem mem13 {x : Sub} {k : K} (h : k ∈ kinds13 x) : k = .gaps ∨ (∃ m ∈ x.queue, k = .body m) ∨ k = .note ∨ (∃ m ∈ x.queue, k = .msg m) ∨ k = .sub ∨ ∃ m ∈ x.queue, k = .more m := by
  simp only [kinds13, List.mem_append, List.mem_map, nz, gz] at h
  rcases h with ((((h | ⟨m, hm, rfl⟩) | h) | ⟨m, hm, rfl⟩) | h) | h
  · split at h
    · cases h
    · exact .inl (by simpa using h)
  · exact .inr (.inl ⟨m, hm, rfl⟩)
  · split at h
    · cases h
    · exact .inr (.inr (.inl (by simpa using h)))
  · exact .inr (.inr (.inr (.inl ⟨m, hm, rfl⟩)))
  · exact .inr (.inr (.inr (.inr (.inl (by simpa using h)))))
  · exact .inr (.inr (.inr (.inr (.inr (mem_mz h)))))
theorem mem14 {x : Sub} {k : K} (h : k ∈ kinds14 x) : k = .gaps ∨ (∃ m ∈ x.queue, k = .msg m) ∨ k = .sub := by
  simp only [kinds14, List.mem_append, List.mem_map, gz] at h
  rcases h with (h | ⟨m, hm, rfl⟩) | h
  · split at h
    · cases h
    · exact .inl (by simpa using h)
  · exact .inr (.inl ⟨m, hm, rfl⟩)
  · exact .inr (.inr (by simpa using h))
theorem encK_row (v : Nat) (hv : 1 ≤ v ∧ v ≤ 3) (x : Sub) : (encK v x).map Kr.row = encV v x := by
  unfold encK encV
  rw [List.map_map]
  have : v = 1 ∨ v = 2 ∨ v = 3 := by omega
  rcases this with rfl | rfl | rfl
  · refine List.map_congr_left fun k hk => ?_
    rcases mem12 hk with ⟨a, _, rfl⟩ | rfl | ⟨m, _, rfl⟩ | rfl | rfl | ⟨m, _, rfl⟩ <;> rfl
  · refine List.map_congr_left fun k hk => ?_
    rcases mem13 hk with rfl | ⟨m, _, rfl⟩ | rfl | ⟨m, _, rfl⟩ | rfl | ⟨m, _, rfl⟩ <;> rfl
  · refine List.map_congr_left fun k hk => ?_
    rcases mem14 hk with rfl | ⟨m, _, rfl⟩ | rfl <;> rfl
theorem kinds_seq {v : Nat} {x : Sub} (hx : SubOK x) {k : K} (hk : k ∈ kindsV v x) : 97 ≤ tK k ∧ tK k ≤ 122 ∧ seqK k ≤ 9999 := by
  have ha := hx.ackle
  have hm : ∀ m ∈ x.queue, m.seq ≤ 9999 := fun m hm => (hx.msgs m hm).seq
  unfold kindsV at hk
  split at hk
  · rcases mem12 hk with ⟨a, h, rfl⟩ | rfl | ⟨m, h, rfl⟩ | rfl | rfl | ⟨m, h, rfl⟩ <;> first | exact ⟨by simp [tK], by simp [tK], ha _ h⟩ | exact ⟨by simp [tK], by simp [tK], hm _ h⟩ | exact ⟨by simp [tK], by simp [tK], by simp [seqK]⟩
  · split at hk
    · rcases mem13 hk with rfl | ⟨m, h, rfl⟩ | rfl | ⟨m, h, rfl⟩ | rfl | ⟨m, h, rfl⟩ <;> first | exact ⟨by simp [tK], by simp [tK], hm _ h⟩ | exact ⟨by simp [tK], by simp [tK], by simp [seqK]⟩
    · rcases mem14 hk with rfl | ⟨m, h, rfl⟩ | rfl <;> first | exact ⟨by simp [tK], by simp [tK], hm _ h⟩ | exact ⟨by simp [tK], by simp [tK], by simp [seqK]⟩
theorem encK_ok {v : Nat} (hv : 1 ≤ v ∧ v ≤ 3) {x : Sub} (hx : SubOK x) : ∀ r ∈ encK v x, KrOK r ∧ r.v = v ∧ r.id = x.id := by
  intro r hr
  obtain ⟨k, hk, rfl⟩ := List.mem_map.1 hr
  have h := kinds_seq hx hk
  exact ⟨⟨by show v < 10; omega, ⟨h.1, h.2.1⟩, hx.id, h.2.2⟩, rfl, rfl⟩
def kn (k : K) : Nat := tK k * 100000 + seqK k
def KLt (l : List K) : Prop := l.Pairwise fun a b => kn a < kn b
theorem klt_one (k : K) : KLt [k] := List.pairwise_singleton _ _
theorem klt_nz (s : Str) (k : K) : KLt (nz s k) := by unfold nz; split <;> simp [KLt]
theorem klt_gz (l : List Nat) : KLt (gz l) := by unfold gz; split <;> simp [KLt]
theorem klt_map (f : Msg → K) (t : Nat) (hf : ∀ m, kn (f m) = t * 100000 + m.seq) : ∀ {q : List Msg}, (q.map (·.seq)).Pairwise (· < ·) → KLt (q.map f) := by
  intro q h
  unfold KLt
  rw [List.pairwise_map] at h ⊢
  exact h.imp fun {a b} hab => by rw [hf, hf]; omega
theorem klt_mz : ∀ {q : List Msg}, (q.map (·.seq)).Pairwise (· < ·) → KLt (q.flatMap mz)
  | [], _ => .nil
  | m :: q, h => by
    rw [List.map_cons, List.pairwise_cons] at h
    have ih := klt_mz h.2
    rw [List.flatMap_cons]
    unfold mz
    split
    · exact ih
    · refine List.pairwise_cons.2 ⟨fun k hk => ?_, ih⟩
      obtain ⟨m', hm', rfl⟩ := mem_mz hk
      have := h.1 m'.seq (List.mem_map.2 ⟨m', hm', rfl⟩)
      show 120 * 100000 + m.seq < 120 * 100000 + m'.seq
      omega
theorem klt_app {l l' : List K} (t : Nat) (h : KLt l) (h' : KLt l') (h1 : ∀ k ∈ l, kn k < t) (h2 : ∀ k ∈ l', t ≤ kn k) : KLt (l ++ l') :=
  List.pairwise_append.2 ⟨h, h', fun a ha b hb => Nat.lt_of_lt_of_le (h1 a ha) (h2 b hb)⟩
theorem klt_kinds {v : Nat} {x : Sub} (hx : SubOK x) : KLt (kindsV v x) := by
  have hq : (x.queue.map (·.seq)).Pairwise (· < ·) := rise_pw hx.qrise
  have ha : x.acks.Pairwise (· < ·) := rise_pw hx.rise
  have hm : ∀ m ∈ x.queue, m.seq ≤ 9999 := fun m hm => (hx.msgs m hm).seq
  have hal := hx.ackle
  have nn : ∀ k ∈ nz x.note K.note, kn k = 11000000 := by
    intro k hk
    unfold nz at hk
    split at hk
    · cases hk
    · obtain rfl : k = .note := by simpa using hk
      rfl
  have nw : ∀ k ∈ nz x.want K.want, kn k = 11900000 := by
    intro k hk
    unfold nz at hk
    split at hk
    · cases hk
    · obtain rfl : k = .want := by simpa using hk
      rfl
  have ng : ∀ k ∈ gz x.acks, kn k = 9700000 := by
    intro k hk
    unfold gz at hk
    split at hk
    · cases hk
    · obtain rfl : k = .gaps := by simpa using hk
      rfl
  have na : ∀ k ∈ x.acks.map K.ack, 9700000 ≤ kn k ∧ kn k < 9800000 := by
    intro k hk
    obtain ⟨a, h, rfl⟩ := List.mem_map.1 hk
    have := hal a h
    show 9700000 ≤ 97 * 100000 + a ∧ 97 * 100000 + a < 9800000
    omega
  have nb : ∀ k ∈ x.queue.map K.body, 9800000 ≤ kn k ∧ kn k < 9900000 := by
    intro k hk
    obtain ⟨m, h, rfl⟩ := List.mem_map.1 hk
    have := hm m h
    show 9800000 ≤ 98 * 100000 + m.seq ∧ 98 * 100000 + m.seq < 9900000
    omega
  have nm : ∀ k ∈ x.queue.map K.msg, 11300000 ≤ kn k ∧ kn k < 11400000 := by
    intro k hk
    obtain ⟨m, h, rfl⟩ := List.mem_map.1 hk
    have := hm m h
    show 11300000 ≤ 113 * 100000 + m.seq ∧ 113 * 100000 + m.seq < 11400000
    omega
  have nx : ∀ k ∈ x.queue.flatMap mz, 12000000 ≤ kn k := by
    intro k hk
    obtain ⟨m, h, rfl⟩ := mem_mz hk
    show 12000000 ≤ 120 * 100000 + m.seq
    omega
  have ns : ∀ k ∈ [K.sub], kn k = 11500000 := by
    intro k hk
    obtain rfl : k = .sub := by simpa using hk
    rfl
  have ka : KLt (x.acks.map K.ack) := by
    unfold KLt
    rw [List.pairwise_map]
    refine ha.imp fun {a b} hab => ?_
    show 97 * 100000 + a < 97 * 100000 + b
    omega
  unfold kindsV
  split
  · unfold kinds12
    refine klt_app 12000000 (klt_app 11900000 (klt_app 11500000 (klt_app 11300000 (klt_app 11000000 ka (klt_nz _ _) ?_ ?_) (klt_map K.msg 113 (fun m => rfl) hq) ?_ ?_) (klt_one _) ?_ ?_) (klt_nz _ _) ?_ ?_) (klt_mz hq) ?_ ?_
    all_goals
      intro k hk
      try simp only [List.mem_append] at hk
    · have := na k hk; omega
    · have := nn k hk; omega
    · rcases hk with hk | hk
      · have := na k hk; omega
      · have := nn k hk; omega
    · exact (nm k hk).1
    · rcases hk with (hk | hk) | hk
      · have := na k hk; omega
      · have := nn k hk; omega
      · have := nm k hk; omega
    · have := ns k hk; omega
    · rcases hk with ((hk | hk) | hk) | hk
      · have := na k hk; omega
      · have := nn k hk; omega
      · have := nm k hk; omega
      · have := ns k hk; omega
    · have := nw k hk; omega
    · rcases hk with (((hk | hk) | hk) | hk) | hk
      · have := na k hk; omega
      · have := nn k hk; omega
      · have := nm k hk; omega
      · have := ns k hk; omega
      · have := nw k hk; omega
    · exact nx k hk
  · split
    · unfold kinds13
      refine klt_app 12000000 (klt_app 11500000 (klt_app 11300000 (klt_app 11000000 (klt_app 9800000 (klt_gz _) (klt_map K.body 98 (fun m => rfl) hq) ?_ ?_) (klt_nz _ _) ?_ ?_) (klt_map K.msg 113 (fun m => rfl) hq) ?_ ?_) (klt_one _) ?_ ?_) (klt_mz hq) ?_ ?_
      all_goals
        intro k hk
        try simp only [List.mem_append] at hk
      · have := ng k hk; omega
      · exact (nb k hk).1
      · rcases hk with hk | hk
        · have := ng k hk; omega
        · have := nb k hk; omega
      · have := nn k hk; omega
      · rcases hk with (hk | hk) | hk
        · have := ng k hk; omega
        · have := nb k hk; omega
        · have := nn k hk; omega
      · exact (nm k hk).1
      · rcases hk with ((hk | hk) | hk) | hk
        · have := ng k hk; omega
        · have := nb k hk; omega
        · have := nn k hk; omega
        · have := nm k hk; omega
      · have := ns k hk; omega
      · rcases hk with (((hk | hk) | hk) | hk) | hk
        · have := ng k hk; omega
        · have := nb k hk; omega
        · have := nn k hk; omega
        · have := nm k hk; omega
        · have := ns k hk; omega
      · exact nx k hk
    · unfold kinds14
      refine klt_app 11500000 (klt_app 11300000 (klt_gz _) (klt_map K.msg 113 (fun m => rfl) hq) ?_ ?_) (klt_one _) ?_ ?_
      all_goals
        intro k hk
        try simp only [List.mem_append] at hk
      · have := ng k hk; omega
      · exact (nm k hk).1
      · rcases hk with hk | hk
        · have := ng k hk; omega
        · have := nm k hk; omega
      · have := ns k hk; omega
theorem num_lt (B v ta tb sa sb i : Nat) (hs : sa < B) (h : ta < tb ∨ (ta = tb ∧ sa < sb)) : ((v * 256 + ta) * B + i) * B + sa < ((v * 256 + tb) * B + i) * B + sb := by
  rcases h with h | ⟨rfl, h⟩
  · have h1 := Nat.mul_le_mul_right B (show v * 256 + ta + 1 ≤ v * 256 + tb by omega)
    have h2 := Nat.mul_le_mul_right B (show (v * 256 + ta) * B + i + 1 ≤ (v * 256 + tb) * B + i by rw [Nat.add_mul _ 1 B] at h1; omega)
    rw [Nat.add_mul _ 1 B] at h2
    omega
  · exact Nat.add_lt_add_left h _
theorem encK_rise {v : Nat} (hv : 1 ≤ v ∧ v ≤ 3) {x : Sub} (hx : SubOK x) : NumLt (encK v x) := by
  unfold NumLt encK
  rw [List.pairwise_map]
  refine (klt_kinds (v := v) hx).imp_of_mem fun {a b} ha hb hab => ?_
  have h1 := kinds_seq hx ha
  have h2 := kinds_seq hx hb
  have hi := hx.id
  replace hab : tK a * 100000 + seqK a < tK b * 100000 + seqK b := hab
  simp only [Kr.num, krK]
  clear ha hb hx hv
  refine num_lt _ _ _ _ _ _ _ ?_ ?_
  · omega
  · omega
end Go.Proofs.YtobamidecbfgpaaGreatDoor
namespace Go.Proofs.YtobamidecbfgpaaGreatDoor
open Go Go.Sh Go.RowKit
set_option linter.unusedVariables false
set_option linter.unusedSimpArgs false
set_option linter.unusedSectionVars false
theorem rise_of_pw : ∀ {l : List Nat} {f : Nat}, l.Pairwise (· < ·) → (∀ a ∈ l, f < a) → Rise f l
  | [], _, _, _ => trivial
  | a :: r, f, h, hf => by
    rw [List.pairwise_cons] at h
    exact ⟨hf a List.mem_cons_self, rise_of_pw h.2 h.1⟩
def IdLt (l : List Sub) : Prop := l.Pairwise fun a b => a.id < b.id
theorem idlt_map {l : List Sub} : IdLt l ↔ (l.map (·.id)).Pairwise (· < ·) := by
  unfold IdLt
  rw [List.pairwise_map]
theorem mem_ins {x a : Sub} : ∀ {l : List Sub}, a ∈ insS x l ↔ a = x ∨ a ∈ l
  | [] => by simp [insS]
  | y :: r => by
    unfold insS
    split
    · simp
    · rw [List.mem_cons, mem_ins, List.mem_cons]
      exact ⟨fun h => by rcases h with h | h | h <;> simp [h], fun h => by rcases h with h | h | h <;> simp [h]⟩
theorem ins_lt {x : Sub} : ∀ {l : List Sub}, IdLt l → (∀ y ∈ l, y.id ≠ x.id) → IdLt (insS x l)
  | [], _, _ => List.pairwise_singleton _ _
  | y :: r, h, hn => by
    have h0 := List.pairwise_cons.1 h
    unfold insS
    split
    · rename_i hlt
      refine List.pairwise_cons.2 ⟨fun z hz => ?_, h⟩
      rcases List.mem_cons.1 hz with rfl | hz
      · exact hlt
      · exact Nat.lt_trans hlt (h0.1 z hz)
    · rename_i hge
      refine List.pairwise_cons.2 ⟨fun z hz => ?_, ins_lt h0.2 (fun z hz => hn z (List.mem_cons_of_mem _ hz))⟩
      rcases mem_ins.1 hz with rfl | hz
      · have := hn y List.mem_cons_self
        omega
      · exact h0.1 z hz
theorem mem_put {s : Sta} {x a : Sub} : a ∈ (putS s x).subs ↔ a = x ∨ (a ∈ s.subs ∧ a.id ≠ x.id) := by
  show a ∈ insS x (woS x.id s.subs) ↔ _
  rw [mem_ins, woS, List.mem_filter]
  simp
theorem put_lt {s : Sta} {x : Sub} (h : IdLt s.subs) : IdLt (putS s x).subs := by
  refine ins_lt (List.Pairwise.filter _ h) (fun y hy => ?_)
  have := (List.mem_filter.1 hy).2
  simpa using this
theorem idlt_eq {l : List Sub} (h : IdLt l) {a b : Sub} (ha : a ∈ l) (hb : b ∈ l) (he : a.id = b.id) : a = b := by
  obtain ⟨i, hi, rfl⟩ := List.getElem_of_mem ha
  obtain ⟨j, hj, rfl⟩ := List.getElem_of_mem hb
  rcases Nat.lt_trichotomy i j with hij | rfl | hij
  · have := List.pairwise_iff_getElem.1 h i j hi hj hij; omega
  · rfl
  · have := List.pairwise_iff_getElem.1 h j i hj hi hij; omega
theorem ids_fold : ∀ (l : List Kr) (s : Sta), IdLt s.subs → IdLt (l.foldl idsP s).subs ∧ ∀ n, n ∈ (l.foldl idsP s).subs.map (·.id) ↔ n ∈ s.subs.map (·.id) ∨ ∃ r ∈ l, 0 < r.v ∧ r.id = n
  | [], s, h => ⟨h, fun n => by simp⟩
  | r :: l, s, h => by
    have h1 : IdLt (idsP s r).subs := by
      unfold idsP
      split
      · exact put_lt h
      · exact h
    have h2 : ∀ n, n ∈ (idsP s r).subs.map (·.id) ↔ n ∈ s.subs.map (·.id) ∨ (0 < r.v ∧ r.id = n) := by
      intro n
      unfold idsP
      split
      · rename_i hv
        simp only [List.mem_map, mem_put]
        constructor
        · rintro ⟨a, rfl | ⟨ha, hne⟩, rfl⟩
          · exact .inr ⟨hv, rfl⟩
          · exact .inl ⟨a, ha, rfl⟩
        · rintro (⟨a, ha, rfl⟩ | ⟨_, rfl⟩)
          · by_cases he : a.id = r.id
            · exact ⟨idSub r.id, .inl rfl, he.symm⟩
            · exact ⟨a, .inr ⟨ha, he⟩, rfl⟩
          · exact ⟨idSub r.id, .inl rfl, rfl⟩
      · rename_i hv
        exact ⟨.inl, fun h => h.resolve_right fun hh => hv hh.1⟩
    obtain ⟨h3, h4⟩ := ids_fold l (idsP s r) h1
    refine ⟨h3, fun n => ?_⟩
    rw [List.foldl_cons, h4, h2]
    constructor
    · rintro ((h | ⟨h5, h6⟩) | ⟨q, hq, h5, h6⟩)
      · exact .inl h
      · exact .inr ⟨r, List.mem_cons_self, h5, h6⟩
      · exact .inr ⟨q, List.mem_cons_of_mem _ hq, h5, h6⟩
    · rintro (h | ⟨q, hq, h5, h6⟩)
      · exact .inl (.inl h)
      · rcases List.mem_cons.1 hq with rfl | hq
        · exact .inl (.inr ⟨h5, h6⟩)
        · exact .inr ⟨q, hq, h5, h6⟩
def frontK (m : Mix) (s : Sta) : List Kr := [⟨0, 109, 0, 0, numsB [s.clock, s.next, s.last]⟩, ⟨0, 118, 0, 0, numsB [m.src, m.to, m.cursor, backN m]⟩]
def allK (m : Mix) (s : Sta) : List Kr := frontK m s ++ s.subs.flatMap fun x => encK (routeV m x.id) x
def krs (m : Mix) (s : Sta) : List Kr := sortB kkey (allK m s)
theorem route_ok {m : Mix} (hm : MixOK m) (id : Nat) : 1 ≤ routeV m id ∧ routeV m id ≤ 3 := by
  unfold routeV
  split
  · exact hm.to
  · exact hm.src
theorem allK_row {m : Mix} (hm : MixOK m) (s : Sta) : (allK m s).map Kr.row = rowsR m s s.subs := by
  have key : ∀ l : List Sub, (l.flatMap fun x => encK (routeV m x.id) x).map Kr.row = l.flatMap fun x => encV (routeV m x.id) x := by
    intro l
    induction l with
    | nil => rfl
    | cons x l ih => rw [List.flatMap_cons, List.flatMap_cons, List.map_append, ih, encK_row _ (route_ok hm _)]
  rw [allK, rowsR, List.map_append, key]
  rfl
theorem rowsP_krs {m : Mix} (hm : MixOK m) (s : Sta) : rowsP m s = (krs m s).map Kr.row := by
  rw [rowsP, ← allK_row hm, sortB_map]
  rfl
theorem mem_krs {m : Mix} {s : Sta} {r : Kr} : r ∈ krs m s ↔ r ∈ frontK m s ∨ ∃ x ∈ s.subs, r ∈ encK (routeV m x.id) x := by
  rw [krs, (sortB_perm kkey (allK m s)).mem_iff, allK, List.mem_append, List.mem_flatMap]
section
variable {m : Mix} {s : Sta} (hm : MixOK m) (hs : StaG s)
include hm hs
theorem sub_ok {x : Sub} (hx : x ∈ s.subs) : SubOK x := (hs.subs x hx).ok
theorem all_ok {r : Kr} (hr : r ∈ allK m s) : KrOK r := by
  rw [allK, List.mem_append, List.mem_flatMap] at hr
  rcases hr with hr | ⟨x, hx, hr⟩
  · simp only [frontK, List.mem_cons, List.not_mem_nil, or_false] at hr
    rcases hr with rfl | rfl <;> exact ⟨by simp, by simp, by simp, by simp⟩
  · exact (encK_ok (route_ok hm _) (sub_ok hm hs hx) r hr).1
theorem krs_ok : ∀ r ∈ krs m s, KrOK r := fun r hr => all_ok hm hs ((sortB_perm kkey (allK m s)).mem_iff.1 hr)
theorem subs_lt : IdLt s.subs := idlt_map.2 (rise_pw hs.rise)
theorem all_ne : (allK m s).Pairwise fun a b => a.num ≠ b.num := by
  have hne : ∀ {a b : Kr}, KrOK a → KrOK b → (a.v ≠ b.v ∨ a.t ≠ b.t ∨ a.id ≠ b.id) → a.num ≠ b.num := by
    intro a b ha hb h he
    obtain ⟨h1, h2, h3, _⟩ := num_parts ha hb he
    rcases h with h | h | h
    · exact h h1
    · exact h h2
    · exact h h3
  have hin := fun r hr => @all_ok m s hm hs r hr
  unfold allK at hin ⊢
  refine List.pairwise_append.2 ⟨?_, ?_, ?_⟩
  · refine List.pairwise_cons.2 ⟨fun b hb => ?_, List.pairwise_singleton _ _⟩
    refine hne (hin _ (List.mem_append_left _ List.mem_cons_self)) (hin _ (List.mem_append_left _ (List.mem_cons_of_mem _ hb))) ?_
    obtain rfl := List.mem_singleton.1 hb
    exact .inr (.inl (by simp))
  · refine List.pairwise_flatMap.2 ⟨fun x hx => (encK_rise (route_ok hm _) (sub_ok hm hs hx)).imp fun {a b} h => Nat.ne_of_lt h, ?_⟩
    refine (subs_lt hm hs).imp_of_mem fun {x y} hx hy hxy a ha b hb => ?_
    have h1 := encK_ok (route_ok hm _) (sub_ok hm hs hx) a ha
    have h2 := encK_ok (route_ok hm _) (sub_ok hm hs hy) b hb
    exact hne h1.1 h2.1 (.inr (.inr (by rw [h1.2.2, h2.2.2]; omega)))
  · intro a ha b hb
    obtain ⟨x, hx, hb'⟩ := List.mem_flatMap.1 hb
    have h2 := encK_ok (route_ok hm _) (sub_ok hm hs hx) b hb'
    refine hne (hin _ (List.mem_append_left _ ha)) h2.1 (.inl ?_)
    have h3 := route_ok hm x.id
    rw [h2.2.1]
    simp only [frontK, List.mem_cons, List.not_mem_nil, or_false] at ha
    rcases ha with rfl | rfl
    · show (0 : Nat) ≠ _; omega
    · show (0 : Nat) ≠ _; omega
theorem krs_rise : NumLt (krs m s) := sortB_rise (fun a ha => all_ok hm hs ha) (all_ne hm hs)
theorem sub_row {x : Sub} (hx : x ∈ s.subs) : ∃ r ∈ krs m s, 0 < r.v ∧ r.id = x.id := by
  have hne : encK (routeV m x.id) x ≠ [] := by
    intro h
    have := encK_row _ (route_ok hm x.id) x
    rw [h] at this
    exact encV_ne _ _ this.symm
  obtain ⟨r, hr⟩ := List.exists_mem_of_ne_nil _ hne
  have h := encK_ok (route_ok hm _) (sub_ok hm hs hx) r hr
  exact ⟨r, mem_krs.2 (.inr ⟨x, hx, hr⟩), by rw [h.2.1]; exact (route_ok hm _).1, h.2.2⟩
theorem row_sub {r : Kr} (hr : r ∈ krs m s) (hv : 0 < r.v) : ∃ x ∈ s.subs, r ∈ encK (routeV m x.id) x ∧ r.id = x.id := by
  rcases mem_krs.1 hr with hr | ⟨x, hx, hr⟩
  · simp only [frontK, List.mem_cons, List.not_mem_nil, or_false] at hr
    rcases hr with rfl | rfl <;> exact absurd hv (by simp)
  · exact ⟨x, hx, hr, (encK_ok (route_ok hm _) (sub_ok hm hs hx) r hr).2.2⟩
theorem ids_krs : (idsS (krs m s)).subs.map (·.id) = s.subs.map (·.id) := by
  obtain ⟨h1, h2⟩ := ids_fold (krs m s) ⟨0, 0, 0, []⟩ .nil
  refine eq_of_rise id _ _ (idlt_map.1 h1) (idlt_map.1 (subs_lt hm hs)) (fun n => ?_)
  rw [idsS, h2]
  constructor
  · rintro (h | ⟨r, hr, hv, rfl⟩)
    · cases h
    · obtain ⟨x, hx, _, he⟩ := row_sub hm hs hr hv
      exact List.mem_map.2 ⟨x, hx, he.symm⟩
  · intro h
    obtain ⟨x, hx, rfl⟩ := List.mem_map.1 h
    obtain ⟨r, hr, hv, he⟩ := sub_row hm hs hx
    exact .inr ⟨r, hr, hv, he⟩
theorem of_krs {x : Sub} (hx : x ∈ s.subs) : ofK x.id (krs m s) = encK (routeV m x.id) x := by
  refine eq_of_rise Kr.num _ _ (List.Pairwise.filter _ (krs_rise hm hs)) (encK_rise (route_ok hm _) (sub_ok hm hs hx)) (fun r => ?_)
  simp only [ofK, List.mem_filter, Bool.and_eq_true, decide_eq_true_eq, beq_iff_eq]
  constructor
  · rintro ⟨hr, hv, he⟩
    obtain ⟨y, hy, hry, he2⟩ := row_sub hm hs hr hv
    obtain rfl := idlt_eq (subs_lt hm hs) hx hy (by omega)
    exact hry
  · intro hr
    have h := encK_ok (route_ok hm _) (sub_ok hm hs hx) r hr
    exact ⟨mem_krs.2 (.inr ⟨x, hx, hr⟩), by rw [h.2.1]; exact (route_ok hm _).1, h.2.2⟩
theorem enc_rising {x : Sub} (hx : x ∈ s.subs) : Rising (encV (routeV m x.id) x) := by
  rw [← encK_row _ (route_ok hm _)]
  refine rising_of (fun r hr => (encK_ok (route_ok hm _) (sub_ok hm hs hx) r hr).1) (fun i hi => ?_)
  exact List.pairwise_iff_getElem.1 (encK_rise (route_ok hm _) (sub_ok hm hs hx)) i (i + 1) (by omega) hi (by omega)
theorem front_key (t : Nat) (v : Str) (h0 : (⟨0, t, 0, 0, v⟩ : Kr) ∈ frontK m s) : (∃ r ∈ rowsP m s, r.key = keyB 0 t 0 0) ∧ ∀ r ∈ rowsP m s, r.key = keyB 0 t 0 0 → r.val = v := by
  have hmem : (⟨0, t, 0, 0, v⟩ : Kr) ∈ krs m s := mem_krs.2 (.inl h0)
  rw [rowsP_krs hm]
  refine ⟨⟨_, List.mem_map.2 ⟨_, hmem, rfl⟩, rfl⟩, fun r hr hk => ?_⟩
  obtain ⟨q, hq, rfl⟩ := List.mem_map.1 hr
  have hnum : q.num = (⟨0, t, 0, 0, v⟩ : Kr).num := key_num (krs_ok hm hs q hq) (krs_ok hm hs _ hmem) hk
  have : q = ⟨0, t, 0, 0, v⟩ := by
    obtain ⟨i, hi, rfl⟩ := List.getElem_of_mem hq
    obtain ⟨j, hj, hje⟩ := List.getElem_of_mem hmem
    rw [← hje] at hnum ⊢
    rcases Nat.lt_trichotomy i j with hij | rfl | hij
    · have := List.pairwise_iff_getElem.1 (krs_rise hm hs) i j hi hj hij; omega
    · rfl
    · have := List.pairwise_iff_getElem.1 (krs_rise hm hs) j i hj hi hij; omega
  rw [this]
  rfl
end
end Go.Proofs.YtobamidecbfgpaaGreatDoor
