/- What the rows of a subscription tell, read one by one, is the subscription (plain). No condition. -/
import Derived.Test.YtobamidecbfgpaaGreatDoorEn
namespace Go.Proofs.YtobamidecbfgpaaGreatDoor
open Go Go.Sh Go.RowKit
set_option linter.unusedVariables false
set_option linter.unusedSimpArgs false
def z0 : Sub := ⟨0, [], [], [], 0, 0, 0, [], [], []⟩
def put14 (y : Sub) (x : Sub × List Nat) : K → Sub × List Nat
  | .gaps => ({ x.1 with id := y.id }, gapL y.floor y.acks)
  | .msg m => ({ x.1 with id := y.id, queue := x.1.queue ++ [m] }, x.2)
  | .sub => ({ x.1 with id := y.id, name := y.name, topic := y.topic, want := y.want, lease := y.lease, most := y.most, floor := y.floor, note := y.note }, x.2)
  | _ => x
theorem Rise_lt : ∀ (l : List Nat) (f : Nat), Rise f l → ∀ a ∈ l, f < a
  | [], _, _, a, h => by simp at h
  | b :: l, f, hr, a, h => by
    rcases List.mem_cons.1 h with rfl | h
    · exact hr.1
    · exact Nat.lt_trans hr.1 (Rise_lt l b hr.2 a h)
theorem Rise_up : ∀ (l : List Nat) (f g : Nat), g ≤ f → Rise f l → Rise g l
  | [], _, _, _, _ => trivial
  | b :: l, f, g, h, hr => ⟨Nat.lt_of_le_of_lt h hr.1, hr.2⟩
/-- Gaps, added up, are the numbers. -/
def sumL : Nat → List Nat → List Nat
  | _, [] => []
  | f, a :: r => (f + a) :: sumL (f + a) r
theorem sum_gap : ∀ (l : List Nat) (f : Nat), Rise f l → sumL f (gapL f l) = l
  | [], _, _ => rfl
  | a :: l, f, h => by
    have e : f + (a - f) = a := by have := h.1; omega
    rw [gapL, sumL, e, sum_gap l a h.2]
/-- Updates of messages by their numbers. -/
theorem fold_up (U : Msg → Msg → Msg) (s t : Msg → Msg) (hs : ∀ m, (s m).seq = m.seq) (ht : ∀ m, (t m).seq = m.seq)
    (hU : ∀ m m', m'.seq ≠ m.seq → U m m' = m') :
    ∀ (q : List Msg) (done : List Msg) (f : Nat), (∀ m ∈ q, U m (s m) = t m) → (∀ d ∈ done, d.seq ≤ f) → Rise f (q.map (·.seq)) →
      q.foldl (fun a m => a.map (U m)) (done ++ q.map s) = done ++ q.map t
  | [], done, f, _, _, _ => by simp
  | m :: q, done, f, hE, hd, hr => by
    simp only [List.map_cons] at hr
    have h1 : done.map (U m) = done := by
      conv => rhs; rw [← List.map_id done]
      exact List.map_congr_left fun d h => hU m d (by have := hd d h; have := hr.1; omega)
    have h2 : (q.map s).map (U m) = q.map s := by
      conv => rhs; rw [← List.map_id (q.map s)]
      refine List.map_congr_left fun d h => hU m d ?_
      obtain ⟨m', hm', rfl⟩ := List.mem_map.1 h
      rw [hs]
      have := Rise_lt _ _ hr.2 m'.seq (List.mem_map_of_mem hm')
      omega
    rw [List.foldl_cons, List.map_cons, List.map_append, List.map_cons, h1, h2, hE m (by simp)]
    have h3 := fold_up U s t hs ht hU q (done ++ [t m]) m.seq (fun m' h => hE m' (by simp [h])) (fun d h => by
      rcases List.mem_append.1 h with h | h
      · have := hd d h; have := hr.1; omega
      · simp at h; rw [h, ht]; exact Nat.le_refl _) hr.2
    simpa using h3
theorem fold_mz {α : Type} (P : α → K → α) : ∀ (q : List Msg) (a : α), (q.flatMap mz).foldl P a = q.foldl (fun a m => (mz m).foldl P a) a
  | [], a => rfl
  | m :: q, a => by rw [List.flatMap_cons, List.foldl_append, fold_mz P q]; rfl
def strip (m : Msg) : Msg := { m with prio := 0, why := [] }
def bare (m : Msg) : Msg := { seq := m.seq, body := m.body, attr := [], tries := 0, til := 0, dead := false, why := [], prio := 0 }
/-- What the row of the last table adds. -/
def moreU (m m' : Msg) : Msg := if mz m = [] then m' else moreF m.seq m m'
theorem moreU_ne (m m' : Msg) (h : m'.seq ≠ m.seq) : moreU m m' = m' := by unfold moreU moreF; split <;> simp [h]
theorem moreU_strip (m : Msg) (h : m.why = whyS (deathN m)) : moreU m (strip m) = m := by
  unfold moreU
  by_cases h0 : m.prio = 0 ∧ m.dead = false
  · rw [if_pos (by unfold mz; rw [if_pos h0])]
    have hd : deathN m = 0 := by unfold deathN; rw [h0.2]; rfl
    rw [hd] at h
    cases m
    simp only [strip] at *
    simp [h0.1, h, whyS]
  · rw [if_neg (by unfold mz; rw [if_neg h0]; simp)]
    simp [moreF, strip]
theorem map_moreU (q : List Msg) (m : Msg) (P : List Msg → K → List Msg) (hP : ∀ a, P a (K.more m) = a.map (moreF m.seq m)) : (mz m).foldl P q = q.map (moreU m) := by
  unfold mz moreU
  split
  · rename_i h; simp [mz, h]
  · rename_i h; simp [mz, h, hP]
section
variable (y : Sub)
theorem f12_ack : ∀ (l : List Nat) (z : Sub), z.id = y.id → (l.map K.ack).foldl (put12 y) z = { z with acks := z.acks ++ l }
  | [], z, _ => by simp
  | a :: l, z, h => by
    rw [List.map_cons, List.foldl_cons, f12_ack l (put12 y z (K.ack a)) rfl]
    simp [put12, ← h]
theorem f12_msg : ∀ (l : List Msg) (z : Sub), z.id = y.id → (l.map K.msg).foldl (put12 y) z = { z with queue := z.queue ++ l.map strip }
  | [], z, _ => by simp
  | a :: l, z, h => by
    rw [List.map_cons, List.foldl_cons, f12_msg l (put12 y z (K.msg a)) rfl]
    simp [put12, ← h, strip]
theorem f12_more : ∀ (l : List Msg) (z : Sub), z.id = y.id → (l.flatMap mz).foldl (put12 y) z = { z with queue := l.foldl (fun a m => a.map (moreU m)) z.queue }
  | [], z, _ => by simp
  | m :: l, z, h => by
    have h1 : (mz m).foldl (put12 y) z = { z with queue := z.queue.map (moreU m) } := by
      unfold mz moreU
      by_cases h0 : m.prio = 0 ∧ m.dead = false
      · simp [mz, h0]
      · simp [mz, h0, put12, ← h]
    rw [List.flatMap_cons, List.foldl_append, h1, f12_more l { z with queue := z.queue.map (moreU m) } h]
    rfl
theorem f12_nz (z : Sub) (h : z.id = y.id) (hn : z.note = []) : (nz y.note K.note).foldl (put12 y) z = { z with note := y.note } := by
  unfold nz
  split
  · rename_i e; rw [e, ← hn]; rfl
  · simp [put12, ← h]
theorem f12_wz (z : Sub) (h : z.id = y.id) (hn : z.want = []) : (nz y.want K.want).foldl (put12 y) z = { z with want := y.want } := by
  unfold nz
  split
  · rename_i e; rw [e, ← hn]; rfl
  · simp [put12, ← h]
theorem put12_id (z : Sub) : ∀ ks : List K, (∀ k ∈ ks, k ≠ .gaps ∧ ∀ m, k ≠ .body m) → ks ≠ [] → ks.foldl (put12 y) z = ks.foldl (put12 y) { z with id := y.id }
  | [], _, h => absurd rfl h
  | k :: ks, h, _ => by
    have := h k (by simp)
    rw [List.foldl_cons, List.foldl_cons]
    cases k <;> first | rfl | (simp at this)
theorem fold12 (h : SubOK y) : (kinds12 y).foldl (put12 y) z0 = y := by
  have hq := fold_up moreU strip id (fun _ => rfl) (fun _ => rfl) moreU_ne
  rw [put12_id y z0 _ (by
    intro k hk
    simp only [kinds12, List.mem_append, List.mem_map, List.mem_flatMap, nz, mz] at hk
    rcases hk with ((((⟨a, _, rfl⟩ | hk) | ⟨a, _, rfl⟩) | hk) | hk) | ⟨a, _, hk⟩
    · simp
    · split at hk <;> simp at hk; simp [hk]
    · simp
    · simp at hk; simp [hk]
    · split at hk <;> simp at hk; simp [hk]
    · split at hk <;> simp at hk; simp [hk]) (by simp [kinds12])]
  have hm : y.queue.foldl (fun a m => a.map (moreU m)) (y.queue.map strip) = y.queue := by
    simpa using hq y.queue [] y.floor (fun m hm => moreU_strip m (h.msgs m hm).why) (by simp) h.qrise
  have e1 : (y.acks.map K.ack).foldl (put12 y) { z0 with id := y.id } = ⟨y.id, [], [], [], 0, 0, 0, y.acks, [], []⟩ := f12_ack y y.acks _ rfl
  have e2 : (nz y.note K.note).foldl (put12 y) ⟨y.id, [], [], [], 0, 0, 0, y.acks, [], []⟩ = ⟨y.id, [], [], [], 0, 0, 0, y.acks, [], y.note⟩ := f12_nz y _ rfl rfl
  have e3 : (y.queue.map K.msg).foldl (put12 y) ⟨y.id, [], [], [], 0, 0, 0, y.acks, [], y.note⟩ = ⟨y.id, [], [], [], 0, 0, 0, y.acks, y.queue.map strip, y.note⟩ := f12_msg y y.queue _ rfl
  have e5 : (nz y.want K.want).foldl (put12 y) ⟨y.id, y.name, y.topic, [], y.lease, y.most, y.floor, y.acks, y.queue.map strip, y.note⟩ = ⟨y.id, y.name, y.topic, y.want, y.lease, y.most, y.floor, y.acks, y.queue.map strip, y.note⟩ := f12_wz y _ rfl rfl
  have e6 : (y.queue.flatMap mz).foldl (put12 y) ⟨y.id, y.name, y.topic, y.want, y.lease, y.most, y.floor, y.acks, y.queue.map strip, y.note⟩ = y := (f12_more y y.queue ⟨y.id, y.name, y.topic, y.want, y.lease, y.most, y.floor, y.acks, y.queue.map strip, y.note⟩ rfl).trans (by simp only [hm])
  unfold kinds12
  rw [List.foldl_append, List.foldl_append, List.foldl_append, List.foldl_append, List.foldl_append, e1, e2, e3]
  exact (congrArg (fun z => List.foldl (put12 y) z (y.queue.flatMap mz)) e5).trans e6
theorem f13_body : ∀ (l : List Msg) (z : Sub × List Nat), z.1.id = y.id → (l.map K.body).foldl (put13 y) z = ({ z.1 with queue := z.1.queue ++ l.map bare }, z.2)
  | [], z, _ => by simp
  | a :: l, z, h => by
    rw [List.map_cons, List.foldl_cons, f13_body l (put13 y z (K.body a)) rfl]
    simp [put13, ← h, bare]
theorem f13_msg : ∀ (l : List Msg) (z : Sub × List Nat), z.1.id = y.id → (l.map K.msg).foldl (put13 y) z = ({ z.1 with queue := l.foldl (fun a m => a.map (msgF m.seq m)) z.1.queue }, z.2)
  | [], z, _ => by simp
  | a :: l, z, h => by
    rw [List.map_cons, List.foldl_cons, f13_msg l (put13 y z (K.msg a)) rfl]
    simp [put13, ← h]
theorem f13_more : ∀ (l : List Msg) (z : Sub × List Nat), z.1.id = y.id → (l.flatMap mz).foldl (put13 y) z = ({ z.1 with queue := l.foldl (fun a m => a.map (moreU m)) z.1.queue }, z.2)
  | [], z, _ => by simp
  | m :: l, z, h => by
    have h1 : (mz m).foldl (put13 y) z = ({ z.1 with queue := z.1.queue.map (moreU m) }, z.2) := by
      unfold mz moreU
      by_cases h0 : m.prio = 0 ∧ m.dead = false
      · simp [mz, h0]
      · simp [mz, h0, put13, ← h]
    rw [List.flatMap_cons, List.foldl_append, h1, f13_more l ({ z.1 with queue := z.1.queue.map (moreU m) }, z.2) h]
    rfl
theorem f13_nz (z : Sub × List Nat) (h : z.1.id = y.id) (hn : z.1.note = []) : (nz y.note K.note).foldl (put13 y) z = ({ z.1 with note := y.note }, z.2) := by
  unfold nz
  split
  · rename_i e; rw [e, ← hn]; rfl
  · simp [put13, ← h]
theorem f13_gz (z : Sub × List Nat) (h : z.1.id = y.id) (hn : z.2 = []) : (gz y.acks).foldl (put13 y) z = (z.1, gapL y.floor y.acks) := by
  unfold gz
  split
  · rename_i e
    have : y.acks = [] := List.length_eq_zero_iff.1 e
    rw [this]
    simp [gapL, ← hn]
  · simp [put13, ← h]
theorem f14_gz (z : Sub × List Nat) (h : z.1.id = y.id) (hn : z.2 = []) : (gz y.acks).foldl (put14 y) z = (z.1, gapL y.floor y.acks) := by
  unfold gz
  split
  · rename_i e
    have : y.acks = [] := List.length_eq_zero_iff.1 e
    rw [this]
    simp [gapL, ← hn]
  · simp [put14, ← h]
theorem f14_msg : ∀ (l : List Msg) (z : Sub × List Nat), z.1.id = y.id → (l.map K.msg).foldl (put14 y) z = ({ z.1 with queue := z.1.queue ++ l }, z.2)
  | [], z, _ => by simp
  | a :: l, z, h => by
    rw [List.map_cons, List.foldl_cons, f14_msg l (put14 y z (K.msg a)) rfl]
    simp [put14, ← h]
theorem put13_id (z : Sub × List Nat) : ∀ ks : List K, (∀ k ∈ ks, (∀ a, k ≠ .ack a) ∧ k ≠ .want) → ks ≠ [] → ks.foldl (put13 y) z = ks.foldl (put13 y) ({ z.1 with id := y.id }, z.2)
  | [], _, h => absurd rfl h
  | k :: ks, h, _ => by
    have := h k (by simp)
    rw [List.foldl_cons, List.foldl_cons]
    cases k <;> first | rfl | (simp at this)
theorem put14_id (z : Sub × List Nat) : ∀ ks : List K, (∀ k ∈ ks, k = .gaps ∨ k = .sub ∨ ∃ m, k = .msg m) → ks ≠ [] → ks.foldl (put14 y) z = ks.foldl (put14 y) ({ z.1 with id := y.id }, z.2)
  | [], _, h => absurd rfl h
  | k :: ks, h, _ => by
    rw [List.foldl_cons, List.foldl_cons]
    rcases h k (by simp) with rfl | rfl | ⟨m, rfl⟩ <;> rfl
theorem kinds13_of : ∀ k ∈ kinds13 y, k = .gaps ∨ k = .note ∨ k = .sub ∨ (∃ m ∈ y.queue, k = .body m) ∨ (∃ m ∈ y.queue, k = .msg m) ∨ ∃ m ∈ y.queue, k = .more m := by
  intro k hk
  simp only [kinds13, List.mem_append, List.mem_map, List.mem_flatMap, nz, mz, gz] at hk
  rcases hk with ((((hk | ⟨a, ha, rfl⟩) | hk) | ⟨a, ha, rfl⟩) | hk) | ⟨a, ha, hk⟩
  · split at hk <;> simp at hk; simp [hk]
  · exact .inr (.inr (.inr (.inl ⟨a, ha, rfl⟩)))
  · split at hk <;> simp at hk; simp [hk]
  · exact .inr (.inr (.inr (.inr (.inl ⟨a, ha, rfl⟩))))
  · simp at hk; simp [hk]
  · split at hk <;> simp at hk; exact .inr (.inr (.inr (.inr (.inr ⟨a, ha, hk⟩))))
theorem kinds14_of : ∀ k ∈ kinds14 y, k = .gaps ∨ k = .sub ∨ ∃ m ∈ y.queue, k = .msg m := by
  intro k hk
  simp only [kinds14, List.mem_append, List.mem_map, gz] at hk
  rcases hk with (hk | ⟨a, ha, rfl⟩) | hk
  · split at hk <;> simp at hk; simp [hk]
  · exact .inr (.inr ⟨a, ha, rfl⟩)
  · simp at hk; simp [hk]
theorem kinds12_of : ∀ k ∈ kinds12 y, (∃ a ∈ y.acks, k = .ack a) ∨ k = .note ∨ k = .sub ∨ k = .want ∨ (∃ m ∈ y.queue, k = .msg m) ∨ ∃ m ∈ y.queue, k = .more m := by
  intro k hk
  simp only [kinds12, List.mem_append, List.mem_map, List.mem_flatMap, nz, mz] at hk
  rcases hk with ((((⟨a, ha, rfl⟩ | hk) | ⟨a, ha, rfl⟩) | hk) | hk) | ⟨a, ha, hk⟩
  · exact .inl ⟨a, ha, rfl⟩
  · split at hk <;> simp at hk; simp [hk]
  · exact .inr (.inr (.inr (.inr (.inl ⟨a, ha, rfl⟩))))
  · simp at hk; simp [hk]
  · split at hk <;> simp at hk; simp [hk]
  · split at hk <;> simp at hk; exact .inr (.inr (.inr (.inr (.inr ⟨a, ha, hk⟩))))
def noAck (y : Sub) : Sub := { y with acks := [] }
theorem fold13 (h : SubOK y) : (kinds13 y).foldl (put13 y) (z0, []) = (noAck y, gapL y.floor y.acks) := by
  have hb : y.queue.foldl (fun a m => a.map (msgF m.seq m)) (y.queue.map bare) = y.queue.map strip := by
    simpa using fold_up (fun m => msgF m.seq m) bare strip (fun _ => rfl) (fun _ => rfl) (fun m m' h => by simp [msgF, h]) y.queue [] y.floor (fun m _ => by simp [msgF, bare, strip]) (by simp) h.qrise
  have hm : y.queue.foldl (fun a m => a.map (moreU m)) (y.queue.map strip) = y.queue := by
    simpa using fold_up moreU strip id (fun _ => rfl) (fun _ => rfl) moreU_ne y.queue [] y.floor (fun m hm => moreU_strip m (h.msgs m hm).why) (by simp) h.qrise
  rw [put13_id y _ _ (fun k hk => by
    rcases kinds13_of y k hk with rfl | rfl | rfl | ⟨_, _, rfl⟩ | ⟨_, _, rfl⟩ | ⟨_, _, rfl⟩ <;> simp) (by simp [kinds13])]
  have e0 : (gz y.acks).foldl (put13 y) ({ z0 with id := y.id }, []) = (⟨y.id, [], [], [], 0, 0, 0, [], [], []⟩, gapL y.floor y.acks) := f13_gz y _ rfl rfl
  have e1 : (y.queue.map K.body).foldl (put13 y) (⟨y.id, [], [], [], 0, 0, 0, [], [], []⟩, gapL y.floor y.acks) = (⟨y.id, [], [], [], 0, 0, 0, [], y.queue.map bare, []⟩, gapL y.floor y.acks) := f13_body y y.queue _ rfl
  have e2 : (nz y.note K.note).foldl (put13 y) (⟨y.id, [], [], [], 0, 0, 0, [], y.queue.map bare, []⟩, gapL y.floor y.acks) = (⟨y.id, [], [], [], 0, 0, 0, [], y.queue.map bare, y.note⟩, gapL y.floor y.acks) := f13_nz y _ rfl rfl
  have e3 : (y.queue.map K.msg).foldl (put13 y) (⟨y.id, [], [], [], 0, 0, 0, [], y.queue.map bare, y.note⟩, gapL y.floor y.acks) = (⟨y.id, [], [], [], 0, 0, 0, [], y.queue.map strip, y.note⟩, gapL y.floor y.acks) := (f13_msg y y.queue _ rfl).trans (by simp only [hb])
  have e6 : (y.queue.flatMap mz).foldl (put13 y) (⟨y.id, y.name, y.topic, y.want, y.lease, y.most, y.floor, [], y.queue.map strip, y.note⟩, gapL y.floor y.acks) = (noAck y, gapL y.floor y.acks) := (f13_more y y.queue _ rfl).trans (by simp only [hm]; rfl)
  unfold kinds13
  rw [List.foldl_append, List.foldl_append, List.foldl_append, List.foldl_append, List.foldl_append]
  dsimp only
  rw [e0, e1, e2, e3]
  exact e6
theorem fold14 (h : SubOK y) : (kinds14 y).foldl (put14 y) (z0, []) = (noAck y, gapL y.floor y.acks) := by
  rw [put14_id y _ _ (fun k hk => by
    rcases kinds14_of y k hk with rfl | rfl | ⟨m, _, rfl⟩
    · exact .inl rfl
    · exact .inr (.inl rfl)
    · exact .inr (.inr ⟨m, rfl⟩)) (by simp [kinds14])]
  have e0 : (gz y.acks).foldl (put14 y) ({ z0 with id := y.id }, []) = (⟨y.id, [], [], [], 0, 0, 0, [], [], []⟩, gapL y.floor y.acks) := f14_gz y _ rfl rfl
  have e3 : (y.queue.map K.msg).foldl (put14 y) (⟨y.id, [], [], [], 0, 0, 0, [], [], []⟩, gapL y.floor y.acks) = (⟨y.id, [], [], [], 0, 0, 0, [], y.queue, []⟩, gapL y.floor y.acks) := f14_msg y y.queue _ rfl
  unfold kinds14
  rw [List.foldl_append, List.foldl_append]
  dsimp only
  rw [e0, e3]
  rfl
end
end Go.Proofs.YtobamidecbfgpaaGreatDoor
