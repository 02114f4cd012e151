/- The law of states: a subscription, over the shadow. No condition. -/
import Derived.Test.YtobamidecbfgpaaGreatDoorSt
namespace Go.Proofs.YtobamidecbfgpaaGreatDoor
open Go Go.Sh Go.RowKit
set_option linter.unusedVariables false
set_option linter.unusedSimpArgs false
set_option maxRecDepth 10000
variable {W : World}
theorem lit4_58 (a b c e : Str) : litD T 58 4 [(0, .s a), (1, .s b), (2, .s c), (3, .s e)] = some (.sl 1 [.s a, .s b, .s c, .s e] .full) := lit58 4 _ ⟨by decide, rfl, by simp [D.solid, D.cells]⟩
theorem lit3_58 (a b c : Str) : litD T 58 3 [(0, .s a), (1, .s b), (2, .s c)] = some (.sl 1 [.s a, .s b, .s c] .full) := lit58 3 _ ⟨by decide, rfl, by simp [D.solid, D.cells]⟩
theorem lit2_58 (a b : Str) : litD T 58 2 [(0, .s a), (1, .s b)] = some (.sl 1 [.s a, .s b] .full) := lit58 2 _ ⟨by decide, rfl, by simp [D.solid, D.cells]⟩
def topicC (k : Nat) : Str := if k = 0 then [35] else if k = 1 then [97] else if k = 2 then [97, 47, 43] else [98, 47, 35]
def wantC (k : Nat) : Str := if k = 0 then [] else if k = 1 then [97, 61, 49] else [97, 61, 49, 44, 98, 61, 50]
def attrC (k : Nat) : Str := if k = 0 then [] else if k = 1 then [97, 61, 49] else [98, 61, 50]
theorem topic_at (m : Nat) (h : m < 4) : ([.s [35], .s [97], .s [97, 47, 43], .s [98, 47, 35]] : List D)[m]'(by simpa using h) = .s (topicC m) := by
  match m, h with
  | 0, _ => rfl
  | 1, _ => rfl
  | 2, _ => rfl
  | 3, _ => rfl
theorem want_at (m : Nat) (h : m < 3) : ([.s [], .s [97, 61, 49], .s [97, 61, 49, 44, 98, 61, 50]] : List D)[m]'(by simpa using h) = .s (wantC m) := by
  match m, h with
  | 0, _ => rfl
  | 1, _ => rfl
  | 2, _ => rfl
theorem attr_at (m : Nat) (h : m < 3) : ([.s [], .s [97, 61, 49], .s [98, 61, 50]] : List D)[m]'(by simpa using h) = .s (attrC m) := by
  match m, h with
  | 0, _ => rfl
  | 1, _ => rfl
  | 2, _ => rfl
theorem why_at (m : Nat) (h : m < 2) : ([.s [110, 97, 99, 107], .s [116, 105, 109, 101]] : List D)[m]'(by simpa using h) = .s (if m = 0 then nackS else timeS) := by
  match m, h with
  | 0, _ => rfl
  | 1, _ => rfl
def headC (c : Str) (id next : Nat) : Sub := ⟨id, 110 :: textC (gC c 0) 19, topicC (gC c 1 % 4), wantC (gC c 1 / 4 % 3), 1 + gC c 2 * 3, 1 + gC c 3 % 9, gC c 4 % next, [], [], if 120 < gC c 5 then textC (gC c 5) 30 else []⟩
def prioC (b2 : Nat) : Nat := if 128 < b2 then b2 % 10 else 0
def stC (b1 b3 most lease clock : Nat) (m : Msg) : Msg :=
  if b3 % 4 = 0 then { m with tries := b3 % most } else if b3 % 4 = 1 then { m with tries := 1 + b3 % most, til := clock + 1 + b1 % lease }
  else if b3 % 4 = 2 then { m with tries := most, dead := true, why := if b1 % 2 = 0 then nackS else timeS } else m
def msgC (c : Str) (h : Sub) (clock i seq : Nat) : Msg :=
  stC (gC c (i + 1)) (gC c (i + 3)) h.most h.lease clock ⟨seq, textC (gC c (i + 1)) 60, attrC (gC c (i + 2) % 3), 0, 0, false, [], prioC (gC c (i + 2))⟩
def goC (c : Str) (h : Sub) (clock next : Nat) : Nat → Nat → List Nat → List Msg → List Nat × List Msg
  | 0, _, a, q => (a, q)
  | n + 1, seq, a, q =>
    if 66 - 4 * (n + 1) + 3 < c.length then
      if next ≤ seq + (1 + gC c (66 - 4 * (n + 1)) % 3) then (a, q)
      else if 200 < gC c (66 - 4 * (n + 1)) then goC c h clock next n (seq + (1 + gC c (66 - 4 * (n + 1)) % 3)) (a ++ [seq + (1 + gC c (66 - 4 * (n + 1)) % 3)]) q
      else goC c h clock next n (seq + (1 + gC c (66 - 4 * (n + 1)) % 3)) a (q ++ [msgC c h clock (66 - 4 * (n + 1)) (seq + (1 + gC c (66 - 4 * (n + 1)) % 3))])
    else (a, q)
def subC (c : Str) (id clock next : Nat) : Sub :=
  { headC c id next with acks := (goC c (headC c id next) clock next 15 (headC c id next).floor [] []).1, queue := (goC c (headC c id next) clock next 15 (headC c id next).floor [] []).2 }
def oHead (h : Sub) (ga gq : Nat) (a : List Nat) (q : List Msg) : D := .ag [.i .i64 h.id, .s h.name, .s h.topic, .s h.want, .i .i64 h.lease, .i .i64 h.most, .i .i64 h.floor, oI ga a, oM gq q, .s h.note]
structure InvS (d : D) (clock next : Nat) (h : Sub) (n seq ga gq : Nat) (a : List Nat) (q : List Msg) (τ : St) : Prop where
  f0 : τ.fr 0 = d
  f2 : τ.fr 2 = .i .i64 clock
  f3 : τ.fr 3 = .i .i64 next
  f8 : τ.fr 8 = .p 8 0 0
  b8 : τ.bx 8 0 = some (dSub z0)
  f9 : τ.fr 9 = .p 9 1 0
  b9 : τ.bx 9 1 = some (oHead h ga gq a q)
  f10 : τ.fr 10 = .i .i64 seq
  f11 : τ.fr 11 = .i .i64 ((66 - 4 * n : Nat) : Int)
  ta : a ≠ [] → τ.tp 41 = some (ga, a.length)
  tq : q ≠ [] → τ.tp 42 = some (gq, q.length)
  len : a.length + q.length + n ≤ 15
theorem sub12 (d : D) (cs : Str) (hc : IsC d cs) (id clock next : Nat) (hl : cs.length ≤ 24) (hid : id ≤ 9999) (hck : clock ≤ 2000) (hn : 1 ≤ next ∧ next ≤ 9999) : Fc T W 12 [d, .i .i64 id, .i .i64 clock, .i .i64 next] (dSub (subC cs id clock next)) := by
  obtain ⟨h, hh⟩ : ∃ h, h = headC cs id next := ⟨_, rfl⟩
  have hres : subC cs id clock next = { h with acks := (goC cs h clock next 15 h.floor [] []).1, queue := (goC cs h clock next 15 h.floor [] []).2 } := by rw [subC, ← hh]
  rw [hres]
  obtain ⟨g0, hg0⟩ : ∃ g, g = gC cs 0 := ⟨_, rfl⟩
  obtain ⟨g1, hg1⟩ : ∃ g, g = gC cs 1 := ⟨_, rfl⟩
  obtain ⟨g2, hg2⟩ : ∃ g, g = gC cs 2 := ⟨_, rfl⟩
  obtain ⟨g3, hg3⟩ : ∃ g, g = gC cs 3 := ⟨_, rfl⟩
  obtain ⟨g4, hg4⟩ : ∃ g, g = gC cs 4 := ⟨_, rfl⟩
  obtain ⟨g5, hg5⟩ : ∃ g, g = gC cs 5 := ⟨_, rfl⟩
  have k0 : Fc T W 10 [d, .i .i64 0] (.i .i64 g0) := by rw [hg0]; exact g10 d cs hc 0
  have k1 : Fc T W 10 [d, .i .i64 1] (.i .i64 g1) := by rw [hg1]; exact g10 d cs hc 1
  have k2 : Fc T W 10 [d, .i .i64 2] (.i .i64 g2) := by rw [hg2]; exact g10 d cs hc 2
  have k3 : Fc T W 10 [d, .i .i64 3] (.i .i64 g3) := by rw [hg3]; exact g10 d cs hc 3
  have k4 : Fc T W 10 [d, .i .i64 4] (.i .i64 g4) := by rw [hg4]; exact g10 d cs hc 4
  have k5 : Fc T W 10 [d, .i .i64 5] (.i .i64 g5) := by rw [hg5]; exact g10 d cs hc 5
  have l0 : g0 ≤ 255 := hg0 ▸ gC_le cs 0
  have l1 : g1 ≤ 255 := hg1 ▸ gC_le cs 1
  have l2 : g2 ≤ 255 := hg2 ▸ gC_le cs 2
  have l3 : g3 ≤ 255 := hg3 ▸ gC_le cs 3
  have l4 : g4 ≤ 255 := hg4 ▸ gC_le cs 4
  have l5 : g5 ≤ 255 := hg5 ▸ gC_le cs 5
  have hhe : h = ⟨id, 110 :: textC g0 19, topicC (g1 % 4), wantC (g1 / 4 % 3), 1 + g2 * 3, 1 + g3 % 9, g4 % next, [], [], if 120 < g5 then textC g5 30 else []⟩ := by rw [hh, hg0, hg1, hg2, hg3, hg4, hg5]; rfl
  obtain ⟨m1, hm1⟩ : ∃ m, m = g1 % 4 := ⟨_, rfl⟩
  obtain ⟨q1, hq1⟩ : ∃ m, m = g1 / 4 := ⟨_, rfl⟩
  obtain ⟨w1, hw1⟩ : ∃ m, m = q1 % 3 := ⟨_, rfl⟩
  obtain ⟨u2, hu2⟩ : ∃ m, m = 1 + g2 * 3 := ⟨_, rfl⟩
  obtain ⟨m3, hm3⟩ : ∃ m, m = g3 % 9 := ⟨_, rfl⟩
  obtain ⟨u3, hu3⟩ : ∃ m, m = 1 + m3 := ⟨_, rfl⟩
  obtain ⟨u4, hu4⟩ : ∃ m, m = g4 % next := ⟨_, rfl⟩
  rw [← hm1, ← hq1, ← hw1, ← hu2, ← hm3, ← hu3, ← hu4] at hhe
  have e1 : (g1 : Int).tmod 4 = (m1 : Int) := by rw [hm1]; rfl
  have e2' : (g1 : Int).tdiv 4 = (q1 : Int) := by rw [hq1]; rfl
  have e2 : IntKind.i64.wrap (q1 : Int) = (q1 : Int) := w64 (by omega) (by omega)
  have e3 : (q1 : Int).tmod 3 = (w1 : Int) := by rw [hw1]; rfl
  have e4 : IntKind.i64.wrap ((g2 : Int) * 3) = ((g2 * 3 : Nat) : Int) := by rw [w64 (by omega) (by omega)]; omega
  have e4b : IntKind.i64.wrap (1 + (g2 : Int) * 3) = (u2 : Int) := by rw [w64 (by omega) (by omega)]; omega
  have e5b : IntKind.i64.wrap (1 + (m3 : Int)) = (u3 : Int) := by rw [w64 (by omega) (by omega)]; omega
  have hn0 : ¬ (next : Int) = 0 := by omega
  have hn1 : ¬ next = 0 := by omega
  have e5 : (g3 : Int).tmod 9 = (m3 : Int) := by rw [hm3]; rfl
  have e6 : (g4 : Int).tmod (next : Int) = (u4 : Int) := by rw [hu4]; rfl
  have h0 : m1 < 4 := by omega
  have h3 : w1 < 3 := by omega
  have hfl : h.floor < next := by rw [hhe]; show u4 < next; rw [hu4]; exact Nat.mod_lt _ (by omega)
  have hmo : 1 ≤ h.most ∧ h.most ≤ 9 := by rw [hhe]; show 1 ≤ u3 ∧ u3 ≤ 9; omega
  have hle : 1 ≤ h.lease ∧ h.lease ≤ 1000 := by rw [hhe]; show 1 ≤ u2 ∧ u2 ≤ 1000; omega
  have hx : ∀ k, k < cs.length → indexD T 22 d (.i .i64 (k : Nat)) = some (.rp (.i .u8 (gC cs k : Nat))) := by
    intro k hk
    rw [hc.ix k hk]
    simp [gC, List.getD, hk, byteD]
  have h0i : (m1 : Int) < 4 := by omega
  have h3i : (w1 : Int) < 3 := by omega
  have hA0 := topic_at m1 h0
  have hA1 := want_at w1 h3
  have ht0 : (textC g0 19).length ≤ 19 := textC_len _ _
  have ht1 : (textC g0 19).length ≤ 4611686018427387903 := by omega
  have ht2 : 1 + (textC g0 19).length ≤ 4611686018427387904 := by omega
  have ht3 : (textC g0 19).length + 1 ≤ 4611686018427387904 := by omega
  refine Fc_intro (thr := thr) hmix Tryz.func12 rfl (by kernel_rfl) (by simp [Tryz.ntmps12]) ?_
  refine CW_reg fun K_ hK => ?_
  simp [wk, vk, ek, ok, lk, buildD, fillD, lit4_58, lit3_58, lit2_58, thr, hc.len, hc.er]
  refine hK _ ?_
  refine CW_reg fun K_ hK => ?_
  simp [wk, vk, ek, ok, lk, buildD, fillD, lit4_58, lit3_58, lit2_58, thr, hc.len, hc.er, e4b, e5b, hn0, hn1, ht1, ht2, ht3, h0i, h3i, hA0, hA1, e1, e2, e2', e3, e4, e5, e6, h0, h3]
  refine CallW_use (k0) ?_
  simp [wk, vk, ek, ok, lk, buildD, fillD, lit4_58, lit3_58, lit2_58, thr, hc.len, hc.er, e4b, e5b, hn0, hn1, ht1, ht2, ht3, h0i, h3i, hA0, hA1, e1, e2, e2', e3, e4, e5, e6, h0, h3]
  refine CallW_use (text22 g0 19 (by omega) (by omega)) ?_
  simp [wk, vk, ek, ok, lk, buildD, fillD, lit4_58, lit3_58, lit2_58, thr, hc.len, hc.er, e4b, e5b, hn0, hn1, ht1, ht2, ht3, h0i, h3i, hA0, hA1, e1, e2, e2', e3, e4, e5, e6, h0, h3]
  refine CallW_use (k1) ?_
  simp [wk, vk, ek, ok, lk, buildD, fillD, lit4_58, lit3_58, lit2_58, thr, hc.len, hc.er, e4b, e5b, hn0, hn1, ht1, ht2, ht3, h0i, h3i, hA0, hA1, e1, e2, e2', e3, e4, e5, e6, h0, h3]
  refine CallW_use (k1) ?_
  simp [wk, vk, ek, ok, lk, buildD, fillD, lit4_58, lit3_58, lit2_58, thr, hc.len, hc.er, e4b, e5b, hn0, hn1, ht1, ht2, ht3, h0i, h3i, hA0, hA1, e1, e2, e2', e3, e4, e5, e6, h0, h3]
  refine CallW_use (k2) ?_
  simp [wk, vk, ek, ok, lk, buildD, fillD, lit4_58, lit3_58, lit2_58, thr, hc.len, hc.er, e4b, e5b, hn0, hn1, ht1, ht2, ht3, h0i, h3i, hA0, hA1, e1, e2, e2', e3, e4, e5, e6, h0, h3]
  refine CallW_use (k3) ?_
  simp [wk, vk, ek, ok, lk, buildD, fillD, lit4_58, lit3_58, lit2_58, thr, hc.len, hc.er, e4b, e5b, hn0, hn1, ht1, ht2, ht3, h0i, h3i, hA0, hA1, e1, e2, e2', e3, e4, e5, e6, h0, h3]
  refine CallW_use (k4) ?_
  simp [wk, vk, ek, ok, lk, buildD, fillD, lit4_58, lit3_58, lit2_58, thr, hc.len, hc.er, e4b, e5b, hn0, hn1, ht1, ht2, ht3, h0i, h3i, hA0, hA1, e1, e2, e2', e3, e4, e5, e6, h0, h3]
  refine hK _ ?_
  refine CW_join (fun τ => τ.fr 0 = d ∧ τ.fr 2 = .i .i64 clock ∧ τ.fr 3 = .i .i64 next ∧ τ.fr 8 = .p 8 0 0 ∧ τ.bx 8 0 = some (dSub z0) ∧ τ.fr 9 = .p 9 1 0 ∧ τ.bx 9 1 = some (.ag [.i .i64 h.id, .s h.name, .s h.topic, .s h.want, .i .i64 h.lease, .i .i64 h.most, .i .i64 h.floor, .nil, .nil, .s h.note])) (fun Kj2 hKn2 hKx2 => ?_) ?_
  · refine CW_reg fun K_ hK => ?_
    simp [wk, vk, ek, ok, lk, buildD, fillD, lit4_58, lit3_58, lit2_58, thr, hc.len, hc.er]
    refine CallW_use (k5) ?_
    simp [wk, vk, ek, ok, lk, buildD, fillD, lit4_58, lit3_58, lit2_58, thr, hc.len, hc.er]
    refine hK _ ?_
    refine CW_cond rfl (fun hct46 => ?_) (fun hct46 => ?_)
    · have hg5i : (120 : Int) < (g5 : Int) := by simpa [wk, vk, ek] using hct46
      have hg5l : 120 < g5 := by omega
      refine CW_reg1 fun K_ hK => ?_
      simp [wk, vk, ek, ok, lk, buildD, fillD, lit4_58, lit3_58, lit2_58, thr, hc.len, hc.er]
      refine CallW_use (k5) ?_
      simp [wk, vk, ek, ok, lk, buildD, fillD, lit4_58, lit3_58, lit2_58, thr, hc.len, hc.er]
      refine CallW_use (text22 g5 30 (by omega) (by omega)) ?_
      simp [wk, vk, ek, ok, lk, buildD, fillD, lit4_58, lit3_58, lit2_58, thr, hc.len, hc.er]
      refine hK _ ?_
      refine hKn2 _ ?_
      exact ⟨by simp [upd], by simp [upd], by simp [upd], by simp [upd], by simp [upd2, dSub, z0]; exact ⟨rfl, rfl⟩, by simp [upd], by simp [upd2, hhe, hg5l]⟩
    · have hg5i : ¬ (120 : Int) < (g5 : Int) := by simpa [wk, vk, ek] using hct46
      have hg5l : ¬ 120 < g5 := by omega
      refine CW_sk ?_
      refine hKn2 _ ?_
      exact ⟨by simp [upd], by simp [upd], by simp [upd], by simp [upd], by simp [upd2, dSub, z0]; exact ⟨rfl, rfl⟩, by simp [upd], by simp [upd2, hhe, hg5l]⟩
  · rintro ⟨fr, bx, tp, c⟩ ⟨f0, f2, f3, f8, b8, f9, b9⟩
    simp only at f0 f2 f3 f8 b8 f9 b9
    rw [dSub] at b8
    refine CW_reg fun K_ hK => ?_
    simp [wk, vk, ek, ok, lk, buildD, fillD, lit4_58, lit3_58, lit2_58, thr, f0, f2, f3, f8, b8, f9, b9, hc.len, hc.er]
    refine hK _ ?_
    refine CW_seq1 ?_
    refine CW_reg fun K_ hK => ?_
    simp [wk, vk, ek, ok, lk, buildD, fillD, lit4_58, lit3_58, lit2_58, thr, f0, f2, f3, f8, b8, f9, b9, hc.len, hc.er]
    refine hK _ ?_
    refine CW_for (fun n τ => ∃ (seq ga gq : Nat) (a : List Nat) (q : List Msg), InvS d clock next h n seq ga gq a q τ ∧ seq < next ∧ goC cs h clock next n seq a q = goC cs h clock next 15 h.floor [] []) (15) ?_ ?_
    · exact ⟨h.floor, 0, 0, [], [], ⟨by simp [upd, f0], by simp [upd, f2], by simp [upd, f3], by simp [upd, f8], by simp [upd2, b8, dSub], by simp [upd, f9], by simp [upd2, b9, oHead]; exact ⟨rfl, rfl⟩, by simp [upd], by simp [upd], by simp, by simp, by simp⟩, hfl, rfl⟩
    · rintro n ⟨fr, bx, tp, c⟩ ⟨seq, ga, gq, a, q, hI, hsn, hgo⟩ K0 hN0 hX0 hR0 hJ0
      obtain ⟨f0, f2, f3, f8, b8, f9, b9, f10, f11, ta, tq, hlen⟩ := hI
      simp only at f0 f2 f3 f8 b8 f9 b9 f10 f11 ta tq
      rw [dSub] at b8
      rw [oHead] at b9
      obtain ⟨i, hi⟩ : ∃ i, i = 66 - 4 * n := ⟨_, rfl⟩
      rw [← hi] at f11
      obtain ⟨i3, hi3'⟩ : ∃ i3, i3 = i + 3 := ⟨_, rfl⟩
      have e3i : IntKind.i64.wrap ((i : Int) + 3) = (i3 : Int) := by rw [w64 (by omega) (by omega)]; omega
      obtain ⟨b0, hb0⟩ : ∃ b, b = gC cs i := ⟨_, rfl⟩
      have hb0l : b0 ≤ 255 := hb0 ▸ gC_le cs i
      obtain ⟨m0, hm0⟩ : ∃ b, b = b0 % 3 := ⟨_, rfl⟩
      obtain ⟨s, hs⟩ : ∃ s, s = seq + (1 + m0) := ⟨_, rfl⟩
      have e8 : (b0 : Int).tmod 3 = (m0 : Int) := by rw [hm0]; rfl
      have e9 : IntKind.i64.wrap (m0 : Int) = (m0 : Int) := w64 (by omega) (by omega)
      have e10 : IntKind.i64.wrap (1 + (m0 : Int)) = ((1 + m0 : Nat) : Int) := by rw [w64 (by omega) (by omega)]; omega
      have e11 : IntKind.i64.wrap ((seq : Int) + (1 + (m0 : Int))) = (s : Int) := by rw [w64 (by omega) (by omega)]; omega
      refine CW_seq1 ?_
      rcases Nat.lt_or_ge (i + 3) cs.length with hlt | hge
      · obtain ⟨m, rfl⟩ : ∃ m, n = m + 1 := ⟨n - 1, by omega⟩
        have hi3 : i3 < cs.length := by omega
        have hi66 : (i : Int) < 66 := by omega
        have hgo1 := hgo
        rw [goC, ← hi, if_pos (by omega), ← hb0, ← hm0, ← hs] at hgo1
        refine CW_reg fun K_ hK => ?_
        simp [wk, vk, ek, ok, lk, buildD, fillD, lit4_58, lit3_58, lit2_58, thr, hc.len, hc.er, f0, f2, f3, f8, b8, f9, b9, f10, f11, hi3, hi66, e3i]
        refine hK _ ?_
        refine CW_yes rfl ?_
        refine CW_sk ?_
        refine CW_seq1 ?_
        refine CW_blk fun K1 hn1 hx1 hr1 hj1 => ?_
        refine CW_reg fun K_ hK => ?_
        have hx0 := hx i (by omega)
        rw [← hb0] at hx0
        simp [wk, vk, ek, ok, lk, buildD, fillD, lit4_58, lit3_58, lit2_58, thr, hc.len, hc.er, f0, f2, f3, f8, b8, f9, b9, f10, f11, hi3, hi66, e3i, hx0, e8, e9, e10, e11]
        refine hK _ ?_
        refine CW_seq1 ?_
        refine CW_reg fun K_ hK => ?_
        simp [wk, vk, ek, ok, lk, buildD, fillD, lit4_58, lit3_58, lit2_58, thr, hc.len, hc.er, f0, f2, f3, f8, b8, f9, b9, f10, f11, hi3, hi66, e3i]
        refine hK _ ?_
        refine CW_cond rfl (fun hct75 => ?_) (fun hct75 => ?_)
        · have hge : next ≤ s := by simpa [wk, vk, ek, f3] using hct75
          rw [if_pos hge] at hgo1
          have hfin := hgo1.symm
          refine CW_ex ?_
          refine hj1 0 _ (by decide) ?_
          refine hX0 _ ?_
          refine CW_reg fun K_ hK => ?_
          simp [wk, vk, ek, ok, lk, buildD, fillD, lit4_58, lit3_58, lit2_58, thr, f0, f2, f3, f8, b8, f9, b9, f10, f11, hfin]
          refine hK _ ?_
          refine CW_rt ?_
          refine ends_ret ?_
          simp [Tryz.results12, resD, resL, resD1, vk, wk, ok, lk, buildD, fillD, lit4_58, lit3_58, lit2_58, ek, dSub, f0, f2, f3, f8, b8, f9, b9, f10, f11, hfin]
        · have hge : ¬ next ≤ s := by simpa [wk, vk, ek, f3] using hct75
          rw [if_neg hge] at hgo1
          refine CW_sk ?_
          refine CW_seq1 ?_
          rcases Nat.lt_or_ge 200 b0 with h2 | h2
          · have hx0 := hx i (by omega)
            rw [← hb0] at hx0
            rw [if_pos h2] at hgo1
            have hal : (a.length : Int) < 20 := by omega
            have h2i : (200 : Int) < (b0 : Int) := by omega
            refine CW_reg fun K_ hK => ?_
            simp [wk, vk, ek, ok, lk, buildD, fillD, lit4_58, lit3_58, lit2_58, thr, hc.len, hc.er, f0, f2, f3, f8, b8, f9, b9, f10, f11, hi3, hi66, e3i, hx0, h2i, hal]
            refine hK _ ?_
            refine CW_yes rfl ?_
            refine CW_reg fun K_ hK => ?_
            simp [wk, vk, ek, ok, lk, buildD, fillD, lit4_58, lit3_58, lit2_58, thr, hc.len, hc.er, f0, f2, f3, f8, b8, f9, b9, f10, f11, hi3, hi66, e3i, hx0, h2i, hal]
            refine AppW_use (app_I a s ga ta (by omega)) ?_
            simp [wk, vk, ek, ok, lk, buildD, fillD, lit4_58, lit3_58, lit2_58, thr, hc.len, hc.er, f0, f2, f3, f8, b8, f9, b9, f10, f11, hi3, hi66, e3i, hx0, h2i, hal]
            refine hK _ ?_
            refine CW_ex ?_
            refine hx1 _ ?_
            refine CW_reg1 fun K_ hK => ?_
            simp [wk, vk, ek, ok, lk, buildD, fillD, lit4_58, lit3_58, lit2_58, thr, hc.len, hc.er, f0, f2, f3, f8, b8, f9, b9, f10, f11, hi3, hi66, e3i, hx0, h2i, hal]
            refine hK _ ?_
            refine hN0 m _ (by omega) ⟨s, c, gq, a ++ [s], q, ⟨by simp [upd, f0], by simp [upd, f2], by simp [upd, f3], by simp [upd, f8], by simp [upd2, b8, dSub], by simp [upd, f9], by simp [upd2, b9, oHead], by simp [upd, f10], ?_, fun _ => by simp [upd], by simpa [upd] using tq, by simp; omega⟩, by omega, hgo1⟩
            simp [upd, f11]; rw [w64 (by omega) (by omega)]; omega
          · have hx0 := hx i (by omega)
            rw [← hb0] at hx0
            have h2n : ¬ 200 < b0 := by omega
            rw [if_neg h2n] at hgo1
            have h2i : ¬ (200 : Int) < (b0 : Int) := by omega
            refine CW_reg fun K_ hK => ?_
            simp [wk, vk, ek, ok, lk, buildD, fillD, lit4_58, lit3_58, lit2_58, thr, hc.len, hc.er, f0, f2, f3, f8, b8, f9, b9, f10, f11, hi3, hi66, e3i, hx0, h2i]
            refine hK _ ?_
            refine CW_no rfl ?_
            refine CW_sk ?_
            refine CW_seq1 ?_
            refine CW_reg fun K_ hK => ?_
            simp [wk, vk, ek, ok, lk, buildD, fillD, lit4_58, lit3_58, lit2_58, thr, hc.len, hc.er, f0, f2, f3, f8, b8, f9, b9, f10, f11, hi3, hi66, e3i, hx0, h2i]
            refine hK _ ?_
            refine CW_cond rfl (fun hct96 => ?_) (fun hct96 => ?_)
            · exact absurd (show q.length = 30 by have h30 : (q.length : Int) = 30 := (by simpa [wk, vk, ek, ok, f9, b9] using hct96); omega) (by omega)
            · refine CW_sk ?_
              refine CW_reg fun K_ hK => ?_
              obtain ⟨i1, hi1⟩ : ∃ z, z = i + 1 := ⟨_, rfl⟩
              obtain ⟨i2, hi2⟩ : ∃ z, z = i + 2 := ⟨_, rfl⟩
              have e1i : IntKind.i64.wrap ((i : Int) + 1) = (i1 : Int) := by rw [w64 (by omega) (by omega)]; omega
              have e2i : IntKind.i64.wrap ((i : Int) + 2) = (i2 : Int) := by rw [w64 (by omega) (by omega)]; omega
              have hx1 := hx i1 (by omega)
              have hx2 := hx i2 (by omega)
              have hx3 := hx i3 (by omega)
              obtain ⟨b1, hb1⟩ : ∃ b, b = gC cs i1 := ⟨_, rfl⟩
              obtain ⟨b2, hb2⟩ : ∃ b, b = gC cs i2 := ⟨_, rfl⟩
              obtain ⟨b3, hb3⟩ : ∃ b, b = gC cs i3 := ⟨_, rfl⟩
              rw [← hb1] at hx1
              rw [← hb2] at hx2
              rw [← hb3] at hx3
              have lb1 : b1 ≤ 255 := hb1 ▸ gC_le cs i1
              have lb2 : b2 ≤ 255 := hb2 ▸ gC_le cs i2
              have lb3 : b3 ≤ 255 := hb3 ▸ gC_le cs i3
              obtain ⟨m2, hm2⟩ : ∃ b, b = b2 % 3 := ⟨_, rfl⟩
              have e12 : (b2 : Int).tmod 3 = (m2 : Int) := by rw [hm2]; rfl
              have hm2l : m2 < 3 := by omega
              have hm2i : (m2 : Int) < 3 := by omega
              have hA2 := attr_at m2 hm2l
              have e13 : IntKind.i64.wrap (b1 : Int) = (b1 : Int) := w64 (by omega) (by omega)
              have e13b : IntKind.i64.wrap (b2 : Int) = (b2 : Int) := w64 (by omega) (by omega)
              have e13c : IntKind.i64.wrap (b3 : Int) = (b3 : Int) := w64 (by omega) (by omega)
              obtain ⟨M0, hM0⟩ : ∃ M : Msg, M = ⟨s, textC b1 60, attrC m2, 0, 0, false, [], prioC b2⟩ := ⟨_, rfl⟩
              obtain ⟨M1, hM1⟩ : ∃ M : Msg, M = stC b1 b3 h.most h.lease clock M0 := ⟨_, rfl⟩
              have hMC : msgC cs h clock i s = M1 := by rw [msgC, ← hi1, ← hi2, ← hi3', ← hb1, ← hb2, ← hb3, ← hm2, hM1, hM0]
              rw [hMC] at hgo1
              have hmo0 : ¬ (h.most : Int) = 0 := by omega
              have hle0 : ¬ (h.lease : Int) = 0 := by omega
              have hmo1 : ¬ h.most = 0 := by omega
              have hle1 : ¬ h.lease = 0 := by omega
              obtain ⟨r3, hr3⟩ : ∃ r, r = b3 % h.most := ⟨_, rfl⟩
              have hr3l : r3 < h.most := by rw [hr3]; exact Nat.mod_lt _ (by omega)
              have e15 : (b3 : Int).tmod (h.most : Int) = (r3 : Int) := by rw [hr3]; rfl
              obtain ⟨r1, hr1⟩ : ∃ r, r = b1 % h.lease := ⟨_, rfl⟩
              have hr1l : r1 < h.lease := by rw [hr1]; exact Nat.mod_lt _ (by omega)
              have e16 : (b1 : Int).tmod (h.lease : Int) = (r1 : Int) := by rw [hr1]; rfl
              obtain ⟨k1', hk1'⟩ : ∃ r, r = b1 % 2 := ⟨_, rfl⟩
              have e17 : (b1 : Int).tmod 2 = (k1' : Int) := by rw [hk1']; rfl
              have hk1l : k1' < 2 := by omega
              have hk1i : (k1' : Int) < 2 := by omega
              have hA3 := why_at k1' hk1l
              obtain ⟨k3, hk3⟩ : ∃ r, r = b3 % 4 := ⟨_, rfl⟩
              have e18 : (b3 : Int).tmod 4 = (k3 : Int) := by rw [hk3]; rfl
              obtain ⟨p2, hp2⟩ : ∃ r, r = b2 % 10 := ⟨_, rfl⟩
              have e19 : (b2 : Int).tmod 10 = (p2 : Int) := by rw [hp2]; rfl
              have e20 : IntKind.i64.wrap (1 + (r3 : Int)) = ((1 + r3 : Nat) : Int) := by rw [w64 (by omega) (by omega)]; omega
              have e21 : IntKind.i64.wrap ((clock : Int) + 1) = ((clock + 1 : Nat) : Int) := by rw [w64 (by omega) (by omega)]; omega
              have e22 : IntKind.i64.wrap ((clock : Int) + 1 + (r1 : Int)) = ((clock + 1 + r1 : Nat) : Int) := by rw [w64 (by omega) (by omega)]; omega
              rw [stC, ← hk3, ← hr3, ← hr1, ← hk1'] at hM1
              simp [wk, vk, ek, ok, lk, buildD, fillD, lit4_58, lit3_58, lit2_58, thr, hc.len, hc.er, f0, f2, f3, f8, b8, f9, b9, f10, f11, hi3, hi66, e3i, hx0, h2i, e1i, e2i, hx1, hx2, e12, hm2i, hm2l, hA2, e13]
              refine CallW_use (text22 b1 60 (by omega) (by omega)) ?_
              simp [wk, vk, ek, ok, lk, buildD, fillD, lit4_58, lit3_58, lit2_58, thr, hc.len, hc.er, f0, f2, f3, f8, b8, f9, b9, f10, f11, hi3, hi66, e3i, hx0, h2i, e1i, e2i, hx1, hx2, e12, hm2i, hm2l, hA2, e13]
              refine hK _ ?_
              refine CW_join (fun τ => InvS d clock next h (m + 1) s ga gq a q τ ∧ ∃ g, τ.fr 12 = .p 12 g 0 ∧ τ.bx 12 g = some (dMsg M0)) (fun Kj14 hKn14 hKx14 => ?_) ?_
              · refine CW_reg fun K_ hK => ?_
                simp [wk, vk, ek, ok, lk, buildD, fillD, lit4_58, lit3_58, lit2_58, thr, hc.len, hc.er, f0, f2, f3, f8, b8, f9, b9, f10, f11, hi3, hi66, e3i, hx0, h2i, e2i, hx2]
                refine hK _ ?_
                refine CW_cond rfl (fun hct120 => ?_) (fun hct120 => ?_)
                · have hp : (128 : Int) < (b2 : Int) := by simpa [wk, vk, ek] using hct120
                  have hpr : prioC b2 = p2 := by rw [prioC, if_pos (by omega), hp2]
                  refine CW_reg1 fun K_ hK => ?_
                  simp [wk, vk, ek, ok, lk, buildD, fillD, lit4_58, lit3_58, lit2_58, thr, hc.len, hc.er, f0, f2, f3, f8, b8, f9, b9, f10, f11, hi3, hi66, e3i, hx0, h2i, e2i, hx2, e13b, e19]
                  refine hK _ ?_
                  refine hKn14 _ ?_
                  exact ⟨⟨by simp [upd, f0], by simp [upd, f2], by simp [upd, f3], by simp [upd, f8], by simp [upd2, b8, dSub], by simp [upd, f9], by simp [upd2, b9, oHead], by simp [upd, f10], by rw [← hi]; simp [upd, f11], by simpa [upd] using ta, by simpa [upd] using tq, by omega⟩, c, by simp [upd], by simp [upd2, dMsg, hM0, hpr]⟩
                · have hp : ¬ (128 : Int) < (b2 : Int) := by simpa [wk, vk, ek] using hct120
                  have hpr : prioC b2 = 0 := by rw [prioC, if_neg (by omega)]
                  refine CW_sk ?_
                  refine hKn14 _ ?_
                  exact ⟨⟨by simp [upd, f0], by simp [upd, f2], by simp [upd, f3], by simp [upd, f8], by simp [upd2, b8, dSub], by simp [upd, f9], by simp [upd2, b9, oHead], by simp [upd, f10], by rw [← hi]; simp [upd, f11], by simpa [upd] using ta, by simpa [upd] using tq, by omega⟩, c, by simp [upd], by simp [upd2, dMsg, hM0, hpr]⟩
              · rintro ⟨fr, bx, tp, c⟩ ⟨hI, g, f12, b12⟩
                obtain ⟨f0, f2, f3, f8, b8, f9, b9, f10, f11, ta, tq, hlen⟩ := hI
                simp only at f0 f2 f3 f8 b8 f9 b9 f10 f11 ta tq
                rw [dSub] at b8
                rw [oHead] at b9
                simp only at f12 b12
                rw [← hi] at f11
                rw [dMsg] at b12
                refine CW_join (fun τ => InvS d clock next h (m + 1) s ga gq a q τ ∧ ∃ g, τ.fr 12 = .p 12 g 0 ∧ τ.bx 12 g = some (dMsg M1)) (fun Kj16 hKn16 hKx16 => ?_) ?_
                · refine CW_reg fun K_ hK => ?_
                  simp [wk, vk, ek, ok, lk, buildD, fillD, lit4_58, lit3_58, lit2_58, thr, hc.len, hc.er, f0, f2, f3, f8, b8, f9, b9, f10, f11, f12, b12, hx3, e3i, e18]
                  refine hK _ ?_
                  refine CW_blk fun K2 hn2 hx2 hr2 hj2 => ?_
                  refine CW_reg fun K_ hK => ?_
                  simp [wk, vk, ek, ok, lk, buildD, fillD, lit4_58, lit3_58, lit2_58, thr, hc.len, hc.er, f0, f2, f3, f8, b8, f9, b9, f10, f11, f12, b12]
                  refine hK _ ?_
                  refine CW_cond rfl (fun hct135 => ?_) (fun hct135 => ?_)
                  · have hk : (k3 : Int) = 0 := by simpa [wk, vk, ek] using hct135
                    rw [if_pos (by omega)] at hM1
                    refine CW_reg1 fun K_ hK => ?_
                    simp [wk, vk, ek, ok, lk, buildD, fillD, lit4_58, lit3_58, lit2_58, thr, hc.len, hc.er, f0, f2, f3, f8, b8, f9, b9, f10, f11, f12, b12, e3i, hx3, e13c, e15, hmo0, hmo1]
                    refine hK _ ?_
                    refine hn2 _ ?_
                    refine hKn16 _ ?_
                    exact ⟨⟨by simp [upd, f0], by simp [upd, f2], by simp [upd, f3], by simp [upd, f8], by simp [upd2, b8, dSub], by simp [upd, f9], by simp [upd2, b9, oHead], by simp [upd, f10], by rw [← hi]; simp [upd, f11], by simpa [upd] using ta, by simpa [upd] using tq, by omega⟩, g, by simp [upd, f12], by simp [upd2, dMsg, hM1, b12]⟩
                  · have hk : ¬ (k3 : Int) = 0 := by simpa [wk, vk, ek] using hct135
                    rw [if_neg (by omega)] at hM1
                    refine CW_reg fun K_ hK => ?_
                    simp [wk, vk, ek, ok, lk, buildD, fillD, lit4_58, lit3_58, lit2_58, thr, hc.len, hc.er, f0, f2, f3, f8, b8, f9, b9, f10, f11, f12, b12]
                    refine hK _ ?_
                    refine CW_cond rfl (fun hct147 => ?_) (fun hct147 => ?_)
                    · have hk2 : (k3 : Int) = 1 := by simpa [wk, vk, ek] using hct147
                      rw [if_pos (by omega)] at hM1
                      refine CW_reg fun K_ hK => ?_
                      simp [wk, vk, ek, ok, lk, buildD, fillD, lit4_58, lit3_58, lit2_58, thr, hc.len, hc.er, f0, f2, f3, f8, b8, f9, b9, f10, f11, f12, b12, e3i, hx3, e13c, e15, hmo0, hmo1, e20]
                      refine hK _ ?_
                      refine CW_reg1 fun K_ hK => ?_
                      simp [wk, vk, ek, ok, lk, buildD, fillD, lit4_58, lit3_58, lit2_58, thr, hc.len, hc.er, f0, f2, f3, f8, b8, f9, b9, f10, f11, f12, b12, e1i, hx1, e13, e16, hle0, hle1, e21, e22]
                      refine hK _ ?_
                      refine hn2 _ ?_
                      refine hKn16 _ ?_
                      exact ⟨⟨by simp [upd, f0], by simp [upd, f2], by simp [upd, f3], by simp [upd, f8], by simp [upd2, b8, dSub], by simp [upd, f9], by simp [upd2, b9, oHead], by simp [upd, f10], by rw [← hi]; simp [upd, f11], by simpa [upd] using ta, by simpa [upd] using tq, by omega⟩, g, by simp [upd, f12], by simp [upd2, dMsg, hM1, b12]⟩
                    · have hk2 : ¬ (k3 : Int) = 1 := by simpa [wk, vk, ek] using hct147
                      rw [if_neg (by omega)] at hM1
                      refine CW_reg fun K_ hK => ?_
                      simp [wk, vk, ek, ok, lk, buildD, fillD, lit4_58, lit3_58, lit2_58, thr, hc.len, hc.er, f0, f2, f3, f8, b8, f9, b9, f10, f11, f12, b12]
                      refine hK _ ?_
                      refine CW_cond rfl (fun hct173 => ?_) (fun hct173 => ?_)
                      · have hk4 : (k3 : Int) = 2 := by simpa [wk, vk, ek] using hct173
                        rw [if_pos (by omega)] at hM1
                        refine CW_reg fun K_ hK => ?_
                        simp [wk, vk, ek, ok, lk, buildD, fillD, lit4_58, lit3_58, lit2_58, thr, hc.len, hc.er, f0, f2, f3, f8, b8, f9, b9, f10, f11, f12, b12]
                        refine hK _ ?_
                        refine CW_reg fun K_ hK => ?_
                        simp [wk, vk, ek, ok, lk, buildD, fillD, lit4_58, lit3_58, lit2_58, thr, hc.len, hc.er, f0, f2, f3, f8, b8, f9, b9, f10, f11, f12, b12]
                        refine hK _ ?_
                        refine CW_reg1 fun K_ hK => ?_
                        simp [wk, vk, ek, ok, lk, buildD, fillD, lit4_58, lit3_58, lit2_58, thr, hc.len, hc.er, f0, f2, f3, f8, b8, f9, b9, f10, f11, f12, b12, e1i, hx1, e17, hk1i, hk1l, hA3]
                        refine hK _ ?_
                        refine hn2 _ ?_
                        refine hKn16 _ ?_
                        exact ⟨⟨by simp [upd, f0], by simp [upd, f2], by simp [upd, f3], by simp [upd, f8], by simp [upd2, b8, dSub], by simp [upd, f9], by simp [upd2, b9, oHead], by simp [upd, f10], by rw [← hi]; simp [upd, f11], by simpa [upd] using ta, by simpa [upd] using tq, by omega⟩, g, by simp [upd, f12], by simp [upd2, dMsg, hM1, b12]⟩
                      · have hk4 : ¬ (k3 : Int) = 2 := by simpa [wk, vk, ek] using hct173
                        rw [if_neg (by omega)] at hM1
                        refine CW_sk ?_
                        refine hn2 _ ?_
                        refine hKn16 _ ?_
                        exact ⟨⟨by simp [upd, f0], by simp [upd, f2], by simp [upd, f3], by simp [upd, f8], by simp [upd2, b8, dSub], by simp [upd, f9], by simp [upd2, b9, oHead], by simp [upd, f10], by rw [← hi]; simp [upd, f11], by simpa [upd] using ta, by simpa [upd] using tq, by omega⟩, g, by simp [upd, f12], by simp [upd2, dMsg, hM1, b12]⟩
                · rintro ⟨fr, bx, tp, c⟩ ⟨hI, g, f12, b12⟩
                  obtain ⟨f0, f2, f3, f8, b8, f9, b9, f10, f11, ta, tq, hlen⟩ := hI
                  simp only at f0 f2 f3 f8 b8 f9 b9 f10 f11 ta tq
                  rw [dSub] at b8
                  rw [oHead] at b9
                  simp only at f12 b12
                  rw [← hi] at f11
                  rw [dMsg] at b12
                  refine CW_reg1 fun K_ hK => ?_
                  simp [wk, vk, ek, ok, lk, buildD, fillD, lit4_58, lit3_58, lit2_58, thr, hc.len, hc.er, f0, f2, f3, f8, b8, f9, b9, f10, f11, f12, b12]
                  refine AppW_use (app_M q M1 gq tq (by omega)) ?_
                  simp [wk, vk, ek, ok, lk, buildD, fillD, lit4_58, lit3_58, lit2_58, thr, hc.len, hc.er, f0, f2, f3, f8, b8, f9, b9, f10, f11, f12, b12]
                  refine hK _ ?_
                  refine hn1 _ ?_
                  refine CW_reg1 fun K_ hK => ?_
                  simp [wk, vk, ek, ok, lk, buildD, fillD, lit4_58, lit3_58, lit2_58, thr, hc.len, hc.er, f0, f2, f3, f8, b8, f9, b9, f10, f11, f12, b12]
                  refine hK _ ?_
                  refine hN0 m _ (by omega) ⟨s, ga, c, a, q ++ [M1], ⟨by simp [upd, f0], by simp [upd, f2], by simp [upd, f3], by simp [upd, f8], by simp [upd2, b8, dSub], by simp [upd, f9], by simp [upd2, b9, oHead], by simp [upd, f10], ?_, by simpa [upd] using ta, fun _ => by simp [upd], by simp; omega⟩, by omega, hgo1⟩
                  simp [upd, f11]; rw [w64 (by omega) (by omega)]; omega
      · have hi3 : ¬ i3 < cs.length := by omega
        have hfin : goC cs h clock next 15 h.floor [] [] = (a, q) := by
          rw [← hgo]
          cases n with
          | zero => rfl
          | succ m => rw [goC, if_neg (by omega)]
        refine CW_reg fun K_ hK => ?_
        simp [wk, vk, ek, ok, lk, buildD, fillD, lit4_58, lit3_58, lit2_58, thr, hc.len, hc.er, f0, f2, f3, f8, b8, f9, b9, f10, f11, hi3, e3i]
        refine hK _ ?_
        refine CW_no rfl ?_
        refine CW_ex ?_
        refine hX0 _ ?_
        refine CW_reg fun K_ hK => ?_
        simp [wk, vk, ek, ok, lk, buildD, fillD, lit4_58, lit3_58, lit2_58, thr, f0, f2, f3, f8, b8, f9, b9, f10, f11, hfin]
        refine hK _ ?_
        refine CW_rt ?_
        refine ends_ret ?_
        simp [Tryz.results12, resD, resL, resD1, vk, wk, ok, lk, buildD, fillD, lit4_58, lit3_58, lit2_58, ek, dSub, f0, f2, f3, f8, b8, f9, b9, f10, f11, hfin]
end Go.Proofs.YtobamidecbfgpaaGreatDoor
