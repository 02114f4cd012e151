/- The states of choices are good (plain). No condition. -/
import Derived.Test.YtobamidecbfgpaaGreatDoorPm
namespace Go.Proofs.YtobamidecbfgpaaGreatDoor
open Go Go.Sh Go.RowKit
set_option linter.unusedVariables false
set_option linter.unusedSimpArgs false
theorem letS_let (k n : Nat) : ∀ b ∈ letS k n, 97 ≤ b.toNat ∧ b.toNat ≤ 122 := by
  intro b hb
  obtain ⟨i, _, rfl⟩ := List.mem_map.1 hb
  rw [u8_nat (by omega)]
  omega
theorem rise_snoc : ∀ {l : List Nat} {f s : Nat}, Rise f l → f < s → (∀ a ∈ l, a < s) → Rise f (l ++ [s])
  | [], _, _, _, h, _ => ⟨h, trivial⟩
  | a :: r, _, _, h, h1, h2 => ⟨h.1, rise_snoc h.2 (h2 a List.mem_cons_self) (fun b hb => h2 b (List.mem_cons_of_mem _ hb))⟩
theorem attrC_good (k : Nat) : AttrG (attrC k) := by
  unfold attrC
  split
  · exact .inl rfl
  · split
    · exact .inr (.inl rfl)
    · exact .inr (.inr (.inl rfl))
theorem wantC_good (k : Nat) : AttrG (wantC k) := by
  unfold wantC
  split
  · exact .inl rfl
  · split
    · exact .inr (.inl rfl)
    · exact .inr (.inr (.inr rfl))
theorem topicC_good (k : Nat) : PatG (topicC k) := by
  unfold topicC
  split
  · exact .inl rfl
  · split
    · exact .inr (.inl rfl)
    · split
      · exact .inr (.inr (.inl rfl))
      · exact .inr (.inr (.inr rfl))
theorem attrG_len {s : Str} (h : AttrG s) : s.length ≤ 30 := by
  rcases h with rfl | rfl | rfl | rfl <;> decide
theorem patG_len {s : Str} (h : PatG s) : s.length ≤ 30 := by
  rcases h with rfl | rfl | rfl | rfl <;> decide
theorem msgC_good (c : Str) (h : Sub) (clock i seq : Nat) (hm : 1 ≤ h.most ∧ h.most ≤ 9) (hl : 1 ≤ h.lease ∧ h.lease ≤ 1000) (hc : clock ≤ 2000) (hs : seq ≤ 9999) :
    (msgC c h clock i seq).seq = seq ∧ MsgOK (msgC c h clock i seq) ∧ MsgG (msgC c h clock i seq) h clock := by
  have b3 : gC c (i + 3) % h.most < h.most := Nat.mod_lt _ (by omega)
  have b1 : gC c (i + 1) % h.lease < h.lease := Nat.mod_lt _ (by omega)
  have hb := textC_len (gC c (i + 1)) 60
  have ha := attrG_len (attrC_good (gC c (i + 2) % 3))
  have hp : prioC (gC c (i + 2)) ≤ 9 := by unfold prioC; split <;> omega
  unfold msgC stC
  split
  · exact ⟨rfl, ⟨hs, hb, ha, by simp only; omega, by simp, hp, rfl⟩, ⟨attrC_good _, .inr (.inr (.inl ⟨rfl, rfl, rfl, b3⟩))⟩⟩
  · split
    · exact ⟨rfl, ⟨hs, hb, ha, by simp only; omega, by simp only; omega, hp, rfl⟩, ⟨attrC_good _, .inr (.inr (.inr ⟨rfl, rfl, by simp only; omega, by simp only; omega, by simp only; omega, by simp only; omega, by simp only; omega⟩))⟩⟩
    · split
      · split
        · exact ⟨rfl, ⟨hs, hb, ha, by simp only; omega, by simp, hp, rfl⟩, ⟨attrC_good _, .inl ⟨rfl, rfl, rfl, rfl⟩⟩⟩
        · exact ⟨rfl, ⟨hs, hb, ha, by simp only; omega, by simp, hp, rfl⟩, ⟨attrC_good _, .inr (.inl ⟨rfl, rfl, rfl, rfl⟩)⟩⟩
      · exact ⟨rfl, ⟨hs, hb, ha, by simp, by simp, hp, rfl⟩, ⟨attrC_good _, .inr (.inr (.inl ⟨rfl, rfl, rfl, by simp only; omega⟩))⟩⟩
structure AccG (h : Sub) (clock next n seq : Nat) (a : List Nat) (q : List Msg) : Prop where
  lo : h.floor ≤ seq
  hi : seq < next
  ra : Rise h.floor a
  la : ∀ x ∈ a, x ≤ seq
  rq : Rise h.floor (q.map (·.seq))
  lq : ∀ m ∈ q, m.seq ≤ seq
  dis : ∀ m ∈ q, m.seq ∉ a
  ok : ∀ m ∈ q, MsgOK m
  good : ∀ m ∈ q, MsgG m h clock
  len : a.length + q.length + n ≤ 15
theorem acc_go (c : Str) (h : Sub) (clock next : Nat) (hm : 1 ≤ h.most ∧ h.most ≤ 9) (hl : 1 ≤ h.lease ∧ h.lease ≤ 1000) (hc : clock ≤ 2000) (hn : next ≤ 9999) :
    ∀ (n seq : Nat) (a : List Nat) (q : List Msg), AccG h clock next n seq a q → ∃ s, AccG h clock next 0 s (goC c h clock next n seq a q).1 (goC c h clock next n seq a q).2
  | 0, seq, a, q, g => ⟨seq, g⟩
  | n + 1, seq, a, q, g => by
    have g0 : AccG h clock next 0 seq a q := ⟨g.lo, g.hi, g.ra, g.la, g.rq, g.lq, g.dis, g.ok, g.good, by have := g.len; omega⟩
    obtain ⟨i, hi⟩ : ∃ i, i = 66 - 4 * (n + 1) := ⟨_, rfl⟩
    rw [goC, ← hi]
    split
    · obtain ⟨s, hs⟩ : ∃ s, s = seq + (1 + gC c i % 3) := ⟨_, rfl⟩
      rw [← hs]
      split
      · exact ⟨seq, g0⟩
      · rename_i hlt
        have hlo := g.lo
        have hlen := g.len
        split
        · refine acc_go c h clock next hm hl hc hn n s _ _ ⟨by omega, by omega, rise_snoc g.ra (by omega) (fun x hx => by have := g.la x hx; omega), fun x hx => ?_, g.rq, fun m hm => by have := g.lq m hm; omega, fun m hm => ?_, g.ok, g.good, by simp; omega⟩
          · rcases List.mem_append.1 hx with hx | hx
            · have := g.la x hx; omega
            · obtain rfl := List.mem_singleton.1 hx; exact Nat.le_refl _
          · intro hx
            rcases List.mem_append.1 hx with hx | hx
            · exact g.dis m hm hx
            · have := List.mem_singleton.1 hx
              have := g.lq m hm
              omega
        · obtain ⟨e1, e2, e3⟩ := msgC_good c h clock i s hm hl hc (by omega)
          obtain ⟨M, hM⟩ : ∃ M, M = msgC c h clock i s := ⟨_, rfl⟩
          rw [← hM] at e1 e2 e3 ⊢
          have hin : ∀ (p : Msg → Prop), (∀ m ∈ q, p m) → p M → ∀ m ∈ q ++ [M], p m := by
            intro p h1 h2 m hm
            rcases List.mem_append.1 hm with hm | hm
            · exact h1 m hm
            · obtain rfl := List.mem_singleton.1 hm; exact h2
          refine acc_go c h clock next hm hl hc hn n s _ _ ⟨by omega, by omega, g.ra, fun x hx => by have := g.la x hx; omega, ?_, hin _ (fun m hm => by have := g.lq m hm; omega) (by omega), hin _ g.dis (fun hx => by have := g.la _ hx; omega), hin _ g.ok e2, hin _ g.good e3, by simp; omega⟩
          rw [List.map_append]
          refine rise_snoc g.rq (by show _ < M.seq; omega) (fun x hx => ?_)
          obtain ⟨m, hm, rfl⟩ := List.mem_map.1 hx
          have := g.lq m hm
          show m.seq < M.seq
          omega
    · exact ⟨seq, g0⟩
theorem subC_good (c : Str) (id clock next : Nat) (hid : 1 ≤ id ∧ id ≤ 9999) (hc : clock ≤ 2000) (hn : 1 ≤ next ∧ next ≤ 9999) : SubG (subC c id clock next) clock next ∧ (subC c id clock next).acks.length + (subC c id clock next).queue.length ≤ 15 ∧ (subC c id clock next).id = id := by
  obtain ⟨h, hh⟩ : ∃ h, h = headC c id next := ⟨_, rfl⟩
  have g2 := gC_le c 2
  have hm : 1 ≤ h.most ∧ h.most ≤ 9 := by rw [hh]; show 1 ≤ 1 + gC c 3 % 9 ∧ 1 + gC c 3 % 9 ≤ 9; omega
  have hl : 1 ≤ h.lease ∧ h.lease ≤ 1000 := by rw [hh]; show 1 ≤ 1 + gC c 2 * 3 ∧ 1 + gC c 2 * 3 ≤ 1000; omega
  have hf : h.floor < next := by rw [hh]; exact Nat.mod_lt _ (by omega)
  obtain ⟨s, g⟩ := acc_go c h clock next hm hl hc hn.2 15 h.floor [] [] ⟨Nat.le_refl _, hf, trivial, fun _ h => (by cases h), trivial, fun _ h => (by cases h), fun _ h => (by cases h), fun _ h => (by cases h), fun _ h => (by cases h), by simp⟩
  have hname : h.name.length ≤ 20 := by rw [hh]; have := textC_len (gC c 0) 19; show (110 :: textC (gC c 0) 19).length ≤ 20; simp; omega
  have hnote : h.note.length ≤ 30 := by
    rw [hh]
    show (if 120 < gC c 5 then textC (gC c 5) 30 else []).length ≤ 30
    split
    · exact textC_len _ _
    · simp
  have htop : PatG h.topic := by rw [hh]; exact topicC_good _
  have hwant : AttrG h.want := by rw [hh]; exact wantC_good _
  have hidh : h.id = id := by rw [hh]; rfl
  unfold subC
  rw [← hh]
  generalize goC c h clock next 15 h.floor [] [] = r at g
  have hlen := g.len
  have hhi := g.hi
  refine ⟨⟨⟨by show h.id ≤ 9999; omega, by show h.name.length ≤ 30; omega, patG_len htop, attrG_len hwant, by show h.lease ≤ 9999; omega, by show h.most ≤ 9999; omega, by show h.floor ≤ 9999; omega, hnote, by show r.1.length ≤ 20; omega, fun a ha => by have := g.la a ha; omega, g.ra, by show r.2.length ≤ 30; omega, g.ok, g.rq⟩, by show 1 ≤ h.id; omega, ?_, htop, hwant, hl, hm, hf, fun a ha => by have := g.la a ha; omega, fun m hm => by have := g.lq m hm; omega, g.dis, fun m hm => ⟨(g.good m hm).attr, (g.good m hm).st⟩⟩, by show r.1.length + r.2.length ≤ 15; omega, hidh⟩
  refine ⟨?_, ?_, hname⟩
  · rw [show h.name = 110 :: textC (gC c 0) 19 by rw [hh]; rfl]; simp
  · intro b hb
    have hb' : b ∈ h.name := hb
    rw [show h.name = 110 :: textC (gC c 0) 19 by rw [hh]; rfl] at hb'
    rcases List.mem_cons.1 hb' with rfl | hb'
    · exact ⟨by decide, by decide⟩
    · exact letS_let _ _ b hb'
structure StaJ (s : Sta) (n ck nx la : Nat) : Prop where
  eck : s.clock = ck
  enx : s.next = nx
  ela : s.last = la
  lt : IdLt s.subs
  good : ∀ x ∈ s.subs, SubG x ck nx ∧ x.acks.length + x.queue.length ≤ 15 ∧ x.id ≤ la
  len : s.subs.length + n ≤ 6
theorem staJ_go (c : Str) {ck nx la : Nat} (hc : ck ≤ 2000) (hn : 1 ≤ nx ∧ nx ≤ 9999) (hla : 1 ≤ la ∧ la ≤ 9999) : ∀ (n : Nat) (s : Sta), StaJ s n ck nx la → StaJ (goS c n s) 0 ck nx la
  | 0, s, j => j
  | n + 1, s, j => by
    have j0 : StaJ s 0 ck nx la := ⟨j.eck, j.enx, j.ela, j.lt, j.good, by have := j.len; omega⟩
    rw [goS]
    split
    · exact j0
    · have hid : gC c (3 + 24 * (6 - (n + 1))) % s.last < s.last := Nat.mod_lt _ (by rw [j.ela]; omega)
      have hjl := j.ela
      have hlen := j.len
      have hg := subC_good (pieceC c (6 - (n + 1))) (1 + gC c (3 + 24 * (6 - (n + 1))) % s.last) s.clock s.next (by omega) (by rw [j.eck]; exact hc) (by rw [j.enx]; exact hn)
      obtain ⟨x, hx⟩ : ∃ x, x = subC (pieceC c (6 - (n + 1))) (1 + gC c (3 + 24 * (6 - (n + 1))) % s.last) s.clock s.next := ⟨_, rfl⟩
      rw [← hx] at hg ⊢
      have hpl := putS_len s x
      refine staJ_go c hc hn hla n _ ⟨j.eck, j.enx, j.ela, put_lt j.lt, fun y hy => ?_, by omega⟩
      rcases mem_put.1 hy with rfl | ⟨hy, _⟩
      · refine ⟨?_, hg.2.1, by rw [hg.2.2]; omega⟩
        have := hg.1
        rw [j.eck, j.enx] at this
        exact this
      · exact j.good y hy
theorem staC_j (c : Str) : StaJ (staC c) 0 (gC c 0 * 7) (1 + gC c 1 / 4) (gC c 2 % 8) := by
  have h0 := gC_le c 0
  have h1 := gC_le c 1
  have js : ∀ n, n ≤ 6 → StaJ (sta0 c) n (gC c 0 * 7) (1 + gC c 1 / 4) (gC c 2 % 8) := fun n hn => ⟨rfl, rfl, rfl, .nil, fun x hx => (by cases hx), by show 0 + n ≤ 6; omega⟩
  unfold staC
  split
  · exact js 0 (by omega)
  · rename_i h
    have : ¬ gC c 2 % 8 = 0 := h
    exact staJ_go c (by omega) (by omega) (by omega) 6 _ (js 6 (by omega))
theorem staC_good (c : Str) : StaG (staC c) := by
  have j := staC_j c
  have h0 := gC_le c 0
  have h1 := gC_le c 1
  obtain ⟨e1, e2, e3, lt, good, len⟩ := j
  refine ⟨by omega, by omega, by omega, by omega, fun x hx => ?_, ?_, fun x hx => by rw [e3]; exact (good x hx).2.2⟩
  · rw [e1, e2]; exact (good x hx).1
  · refine rise_of_pw (idlt_map.1 lt) (fun n hn => ?_)
    obtain ⟨x, hx, rfl⟩ := List.mem_map.1 hn
    exact (good x hx).1.id1
theorem encV_len2 (v : Nat) (x : Sub) (h : x.acks.length + x.queue.length ≤ 15) : (encV v x).length ≤ 50 := by
  have h1 := nz_len x.note K.note; have h2 := nz_len x.want K.want; have h3 := gz_len x.acks; have h4 := mz_len x.queue
  unfold encV kinds12 kinds13 kinds14
  split
  · simp only [List.length_append, List.length_map, List.length_cons, List.length_nil]; omega
  · split <;> simp only [List.length_append, List.length_map, List.length_cons, List.length_nil] <;> omega
theorem rowsP_len (m : Mix) (c : Str) : (rowsP m (staC c)).length ≤ 900 := by
  have j := staC_j c
  rw [rowsP, (sortB_perm _ _).length_eq]
  have := flat_len (fun x => encV (routeV m x.id) x) 50 (staC c).subs (fun x hx => encV_len2 _ x (j.good x hx).2.1)
  have := j.len
  simp only [rowsR, frontR, List.length_append, List.length_cons, List.length_nil]
  omega
end Go.Proofs.YtobamidecbfgpaaGreatDoor
