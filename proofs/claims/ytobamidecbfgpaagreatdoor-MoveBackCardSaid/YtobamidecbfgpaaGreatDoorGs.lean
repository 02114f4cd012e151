/- What is right, over the shadow. No condition. -/
import Derived.Test.YtobamidecbfgpaaGreatDoorWo
/- What is good, over the shadow. No condition. -/
namespace Go.Proofs.YtobamidecbfgpaaGreatDoor
open Go Go.Sh Go.RowKit
set_option linter.unusedVariables false
set_option linter.unusedSimpArgs false
set_option maxRecDepth 10000
variable {W : World}
def AttrG (s : Str) : Prop := s = [] ∨ s = [97, 61, 49] ∨ s = [98, 61, 50] ∨ s = [97, 61, 49, 44, 98, 61, 50]
def PatG (s : Str) : Prop := s = [35] ∨ s = [97] ∨ s = [97, 47, 43] ∨ s = [98, 47, 35]
structure NameG (s : Str) : Prop where
  ne : s ≠ []
  let_ : ∀ b ∈ s, 97 ≤ b.toNat ∧ b.toNat ≤ 122
  len : s.length ≤ 20
structure MsgG (m : Msg) (x : Sub) (clock : Nat) : Prop where
  attr : AttrG m.attr
  st : (m.dead = true ∧ m.til = 0 ∧ m.why = nackS ∧ m.tries = x.most) ∨ (m.dead = true ∧ m.til = 0 ∧ m.why = timeS ∧ m.tries = x.most) ∨ (m.dead = false ∧ m.why = [] ∧ m.til = 0 ∧ m.tries < x.most) ∨ (m.dead = false ∧ m.why = [] ∧ 0 < m.til ∧ 1 ≤ m.tries ∧ m.tries ≤ x.most ∧ clock < m.til ∧ m.til ≤ clock + x.lease)
structure SubG (x : Sub) (clock next : Nat) : Prop where
  ok : SubOK x
  id1 : 1 ≤ x.id
  name : NameG x.name
  topic : PatG x.topic
  want : AttrG x.want
  lease : 1 ≤ x.lease ∧ x.lease ≤ 1000
  most : 1 ≤ x.most ∧ x.most ≤ 9
  floor : x.floor < next
  ackn : ∀ a ∈ x.acks, a < next
  seqn : ∀ m ∈ x.queue, m.seq < next
  dis : ∀ m ∈ x.queue, m.seq ∉ x.acks
  msgs : ∀ m ∈ x.queue, MsgG m x clock
structure StaG (s : Sta) : Prop where
  clock : s.clock ≤ 2000
  next : 1 ≤ s.next ∧ s.next ≤ 9999
  last : s.last ≤ 9999
  len : s.subs.length ≤ 20
  subs : ∀ x ∈ s.subs, SubG x s.clock s.next
  rise : Rise 0 (s.subs.map (·.id))
  le : ∀ x ∈ s.subs, x.id ≤ s.last
theorem attrG {s : Str} (h : AttrG s) : Fc T W 116 [.s s] (.b true) := by
  rcases h with rfl | rfl | rfl | rfl
  · exact attrs116e
  · exact attrs116 [97, 61, 49] [([97], [49])] rfl (by simp) (by simp) (by simp) (by simp) (by intro p hp; simp at hp; subst hp; decide) (by intro i hi; simp at hi; subst hi; exact ⟨rfl, rfl⟩)
  · exact attrs116 [98, 61, 50] [([98], [50])] rfl (by simp) (by simp) (by simp) (by simp) (by intro p hp; simp at hp; subst hp; decide) (by intro i hi; simp at hi; subst hi; exact ⟨rfl, rfl⟩)
  · refine attrs116 [97, 61, 49, 44, 98, 61, 50] [([97], [49]), ([98], [50])] rfl (by simp) (by simp) (by simp) (by simp) (by intro p hp; simp at hp; rcases hp with rfl | rfl <;> decide) ?_
    intro i hi
    match i, hi with
    | 0, _ => exact ⟨rfl, rfl⟩
    | 1, _ => exact ⟨rfl, rfl⟩
theorem patG {s : Str} (h : PatG s) : Fc T W 115 [.s s] (.b true) := by
  rcases h with rfl | rfl | rfl | rfl
  · exact pattern115 [35] [[35]] rfl (by simp) (by decide) (by simp) (by simp) (by simp) (by intro i hi; simp at hi; subst hi; exact .inr (.inr ⟨rfl, rfl⟩))
  · exact pattern115 [97] [[97]] rfl (by simp) (by decide) (by simp) (by simp) (by simp) (by intro i hi; simp at hi; subst hi; exact .inl (show wordB [97] = true by decide))
  · refine pattern115 [97, 47, 43] [[97], [43]] rfl (by simp) (by decide) (by simp) (by simp) (by simp) ?_
    intro i hi
    match i, hi with
    | 0, _ => exact .inl (show wordB [97] = true by decide)
    | 1, _ => exact .inr (.inl rfl)
  · refine pattern115 [98, 47, 35] [[98], [35]] rfl (by simp) (by decide) (by simp) (by simp) (by simp) ?_
    intro i hi
    match i, hi with
    | 0, _ => exact .inl (show wordB [98] = true by decide)
    | 1, _ => exact .inr (.inr ⟨rfl, rfl⟩)
theorem acked76 (l : List Nat) (n : Nat) (h : n ∉ l) (hl : l.length ≤ 1000) : Fc T W 76 [dInts l, .i .i64 n] (.b false) := by
  refine Fc_intro (thr := thr) hmix Tryz.func76 rfl (by kernel_rfl) (by simp [Tryz.ntmps76]) ?_
  refine CW_reg fun K_ hK => ?_
  simp [wk, vk, ek, ok, lk, buildD, fillD, thr]
  refine hK _ ?_
  refine CW_seq1 ?_
  refine CW_reg fun K_ hK => ?_
  simp [wk, vk, ek, ok, lk, buildD, fillD, thr]
  refine hK _ ?_
  refine CW_for (fun j τ => ∃ i : Nat, j = l.length - i ∧ τ.fr 0 = dInts l ∧ τ.fr 1 = .i .i64 n ∧ τ.fr 5 = .i .i64 i) (l.length) ?_ ?_
  · exact ⟨0, rfl, by simp [upd], by simp [upd], by simp [upd]⟩
  · rintro j ⟨fr, bx, tp, c⟩ ⟨i, rfl, f0, f1, f5⟩ K0 hN0 hX0 hR0 hJ0
    simp only at f0 f1 f5
    refine CW_seq1 ?_
    refine CW_reg fun K_ hK => ?_
    simp [wk, vk, ek, ok, lk, buildD, fillD, thr, f0, f1, f5]
    refine hK _ ?_
    refine CW_cond rfl (fun hct9 => ?_) (fun hct9 => ?_)
    · have hil : i < l.length := by simpa [wk, vk, ek, ok, f0, f5] using hct9
      have hne : ¬ l[i] = n := fun e => h (e ▸ List.getElem_mem hil)
      have hnb : ((l[i] : Int) == (n : Int)) = false := by simp; omega
      refine CW_sk ?_
      refine CW_seq1 ?_
      refine CW_blk fun K1 hn1 hx1 hr1 hj1 => ?_
      refine CW_reg fun K_ hK => ?_
      simp [wk, vk, ek, ok, lk, buildD, fillD, thr, f0, f1, f5, hil, hnb, hne]
      refine hK _ ?_
      refine CW_no rfl ?_
      refine CW_sk ?_
      refine hn1 _ ?_
      refine CW_reg1 fun K_ hK => ?_
      simp [wk, vk, ek, ok, lk, buildD, fillD, thr, f0, f1, f5, hil, hnb, hne]
      refine hK _ ?_
      refine hN0 (l.length - (i + 1)) _ (by omega) ⟨i + 1, rfl, by simp [upd, f0], by simp [upd, f1], ?_⟩
      simp [upd]; rw [w64 (by omega) (by omega)]
    · refine CW_ex ?_
      refine hX0 _ ?_
      refine CW_reg fun K_ hK => ?_
      simp [wk, vk, ek, ok, lk, buildD, fillD, thr]
      refine hK _ ?_
      refine CW_rt ?_
      refine ends_ret ?_
      simp [Tryz.results76, resD, resL, resD1, vk, wk, ok, lk, buildD, fillD, ek]
theorem message77 (m : Msg) (x : Sub) (clock : Nat) (hm : MsgOK m) (hg : MsgG m x clock) (hx : x.most ≤ 9 ∧ x.lease ≤ 1000) (hc : clock ≤ 9999) : Fc T W 77 [dMsg m, dSub x, .i .i64 clock] (.b true) := by
  have a1 : ¬ (60 : Int) < (m.body.length : Int) := by have := hm.body; omega
  have a2 : ¬ 60 < m.body.length := by have := hm.body; omega
  have a3 : ¬ (9 : Int) < (m.prio : Int) := by have := hm.prio; omega
  have a4 : ¬ 9 < m.prio := by have := hm.prio; omega
  have a5 : ¬ (m.prio : Int) < 0 := by omega
  refine Fc_intro (thr := thr) hmix Tryz.func77 rfl (by kernel_rfl) (by simp [Tryz.ntmps77]) ?_
  refine CW_reg fun K_ hK => ?_
  simp [wk, vk, ek, ok, lk, buildD, fillD, thr, dMsg, dSub]
  refine hK _ ?_
  refine CW_seq1 ?_
  refine CW_reg fun K_ hK => ?_
  simp [wk, vk, ek, ok, lk, buildD, fillD, thr, dMsg, dSub, a1, a2, a3, a4, a5]
  refine CallW_use (attrG hg.attr) ?_
  simp [wk, vk, ek, ok, lk, buildD, fillD, thr, dMsg, dSub, a1, a2, a3, a4, a5]
  refine hK _ ?_
  refine CW_no rfl ?_
  refine CW_sk ?_
  refine CW_seq1 ?_
  rcases hg.st with ⟨d, t, w, k⟩ | ⟨d, t, w, k⟩ | ⟨d, w, t, k⟩ | ⟨d, w, t, k1, k2, k3, k4⟩
  · have hd := hc
    refine CW_reg fun K_ hK => ?_
    simp [wk, vk, ek, ok, lk, buildD, fillD, thr, dMsg, dSub, d, t, w, k, nackS]
    refine hK _ ?_
    refine CW_yes rfl ?_
    refine CW_reg fun K_ hK => ?_
    simp [wk, vk, ek, ok, lk, buildD, fillD, thr, dMsg, dSub, d, t, w, k, nackS]
    refine hK _ ?_
    refine CW_rt ?_
    refine ends_ret ?_
    simp [Tryz.results77, resD, resL, resD1, vk, wk, ok, lk, buildD, fillD, ek, dMsg, dSub, d, t, w, k, nackS]
  · have hd := hc
    refine CW_reg fun K_ hK => ?_
    simp [wk, vk, ek, ok, lk, buildD, fillD, thr, dMsg, dSub, d, t, w, k, timeS]
    refine hK _ ?_
    refine CW_yes rfl ?_
    refine CW_reg fun K_ hK => ?_
    simp [wk, vk, ek, ok, lk, buildD, fillD, thr, dMsg, dSub, d, t, w, k, timeS]
    refine hK _ ?_
    refine CW_rt ?_
    refine ends_ret ?_
    simp [Tryz.results77, resD, resL, resD1, vk, wk, ok, lk, buildD, fillD, ek, dMsg, dSub, d, t, w, k, timeS]
  · have k5 : (m.tries : Int) < (x.most : Int) := by omega
    have k6 : (0 : Int) ≤ (m.tries : Int) := by omega
    refine CW_reg fun K_ hK => ?_
    simp [wk, vk, ek, ok, lk, buildD, fillD, thr, dMsg, dSub, d, t, w, k, k5, k6]
    refine hK _ ?_
    refine CW_no rfl ?_
    refine CW_sk ?_
    refine CW_seq1 ?_
    refine CW_reg fun K_ hK => ?_
    simp [wk, vk, ek, ok, lk, buildD, fillD, thr, dMsg, dSub, d, t, w, k, k5, k6]
    refine hK _ ?_
    refine CW_no rfl ?_
    refine CW_sk ?_
    refine CW_seq1 ?_
    refine CW_reg fun K_ hK => ?_
    simp [wk, vk, ek, ok, lk, buildD, fillD, thr, dMsg, dSub, d, t, w, k, k5, k6]
    refine hK _ ?_
    refine CW_yes rfl ?_
    refine CW_reg fun K_ hK => ?_
    simp [wk, vk, ek, ok, lk, buildD, fillD, thr, dMsg, dSub, d, t, w, k, k5, k6]
    refine hK _ ?_
    refine CW_rt ?_
    refine ends_ret ?_
    simp [Tryz.results77, resD, resL, resD1, vk, wk, ok, lk, buildD, fillD, ek, dMsg, dSub, d, t, w, k, k5, k6]
  · have p1 : ((m.til : Int) == 0) = false := by simp; omega
    have p2 : ¬ m.til = 0 := by omega
    have p3 : (1 : Int) ≤ (m.tries : Int) := by omega
    have p4 : (m.tries : Int) ≤ (x.most : Int) := by omega
    have p5 : (clock : Int) < (m.til : Int) := by omega
    have p6 : IntKind.i64.wrap ((clock : Int) + (x.lease : Int)) = (clock : Int) + (x.lease : Int) := w64 (by omega) (by omega)
    have p7 : (m.til : Int) ≤ (clock : Int) + (x.lease : Int) := by omega
    have p8 : ¬ m.tries = 0 := by omega
    refine CW_reg fun K_ hK => ?_
    simp [wk, vk, ek, ok, lk, buildD, fillD, thr, dMsg, dSub, d, w, p1, p2, p3, p4, p5, p6, p7, p8, k1, k2, k3, k4]
    refine hK _ ?_
    refine CW_no rfl ?_
    refine CW_sk ?_
    refine CW_seq1 ?_
    refine CW_reg fun K_ hK => ?_
    simp [wk, vk, ek, ok, lk, buildD, fillD, thr, dMsg, dSub, d, w, p1, p2, p3, p4, p5, p6, p7, p8, k1, k2, k3, k4]
    refine hK _ ?_
    refine CW_no rfl ?_
    refine CW_sk ?_
    refine CW_seq1 ?_
    refine CW_reg fun K_ hK => ?_
    simp [wk, vk, ek, ok, lk, buildD, fillD, thr, dMsg, dSub, d, w, p1, p2, p3, p4, p5, p6, p7, p8, k1, k2, k3, k4]
    refine hK _ ?_
    refine CW_no rfl ?_
    refine CW_sk ?_
    refine CW_reg fun K_ hK => ?_
    simp [wk, vk, ek, ok, lk, buildD, fillD, thr, dMsg, dSub, d, w, p1, p2, p3, p4, p5, p6, p7, p8, k1, k2, k3, k4]
    refine hK _ ?_
    refine CW_rt ?_
    refine ends_ret ?_
    simp [Tryz.results77, resD, resL, resD1, vk, wk, ok, lk, buildD, fillD, ek, dMsg, dSub, d, w, p1, p2, p3, p4, p5, p6, p7, p8, k1, k2, k3, k4]
theorem fields75 (x : Sub) (clock next : Nat) (h : SubG x clock next) : Fc T W 75 [dSub x, .i .i64 next] (.b true) := by
  obtain ⟨ho, a1, an, at_, aw, ⟨al1, al2⟩, ⟨am1, am2⟩, af, _, _, _, _⟩ := h
  have b1 : ¬ (x.id : Int) < 1 := by omega
  have b2 : ¬ (1073741824 : Int) < (x.id : Int) := by have := ho.id; omega
  have b1n : ¬ x.id < 1 := by omega
  have b1z : ¬ x.id = 0 := by omega
  have b2n : ¬ 1073741824 < x.id := by have := ho.id; omega
  have b3 : (1 : Int) ≤ (x.lease : Int) := by omega
  have b4 : (x.lease : Int) ≤ 1000 := by omega
  have b5 : (1 : Int) ≤ (x.most : Int) := by omega
  have b6 : (x.most : Int) ≤ 9 := by omega
  have b7 : (0 : Int) ≤ (x.floor : Int) := by omega
  have b8 : (x.floor : Int) < (next : Int) := by omega
  have b9 : (x.acks.length : Int) ≤ 20 := by have := ho.acks; omega
  have b10 : (x.note.length : Int) ≤ 30 := by have := ho.note; omega
  have b11 : (x.queue.length : Int) ≤ 30 := by have := ho.queue; omega
  have c9 := ho.acks
  have c10 := ho.note
  have c11 := ho.queue
  have z1 : ¬ x.lease = 0 := by omega
  have z2 : ¬ x.most = 0 := by omega
  refine Fc_intro (thr := thr) hmix Tryz.func75 rfl (by kernel_rfl) (by simp [Tryz.ntmps75]) ?_
  refine CW_reg fun K_ hK => ?_
  simp [wk, vk, ek, ok, lk, buildD, fillD, thr, dSub]
  refine hK _ ?_
  refine CW_seq1 ?_
  refine CW_reg fun K_ hK => ?_
  simp [wk, vk, ek, ok, lk, buildD, fillD, thr, dSub, b1, b2, b1n, b1z, b2n]
  refine CallW_use (name114 x.name an.let_ an.ne an.len) ?_
  simp [wk, vk, ek, ok, lk, buildD, fillD, thr, dSub, b1, b2, b1n, b1z, b2n]
  refine CallW_use (patG at_) ?_
  simp [wk, vk, ek, ok, lk, buildD, fillD, thr, dSub, b1, b2, b1n, b1z, b2n]
  refine CallW_use (attrG aw) ?_
  simp [wk, vk, ek, ok, lk, buildD, fillD, thr, dSub, b1, b2, b1n, b1z, b2n]
  refine hK _ ?_
  refine CW_no rfl ?_
  refine CW_sk ?_
  refine CW_reg fun K_ hK => ?_
  simp [wk, vk, ek, ok, lk, buildD, fillD, thr, dSub, b3, b4, b5, b6, b7, b8, b9, b10, b11, al1, al2, am1, am2, af, c9, c10, c11, z1, z2]
  refine hK _ ?_
  refine CW_rt ?_
  refine ends_ret ?_
  simp [Tryz.results75, resD, resL, resD1, vk, wk, ok, lk, buildD, fillD, ek, b11, c11, dSub]
end Go.Proofs.YtobamidecbfgpaaGreatDoor
namespace Go.Proofs.YtobamidecbfgpaaGreatDoor
open Go Go.Sh Go.RowKit
set_option linter.unusedVariables false
set_option linter.unusedSimpArgs false
set_option maxRecDepth 10000
variable {W : World}
theorem good46 (x : Sub) (clock next : Nat) (h : SubG x clock next) (hc : clock ≤ 9999) : Fc T W 46 [dSub x, .i .i64 clock, .i .i64 next] (.b true) := by
  have han := h.ok.acks
  have hqn := h.ok.queue
  refine Fc_intro (thr := thr) hmix Tryz.func46 rfl (by kernel_rfl) (by simp [Tryz.ntmps46]) ?_
  refine CW_reg fun K_ hK => ?_
  simp [wk, vk, ek, ok, lk, buildD, fillD, thr, dSub]
  refine hK _ ?_
  refine CW_seq1 ?_
  refine CW_reg fun K_ hK => ?_
  simp [wk, vk, ek, ok, lk, buildD, fillD, thr, dSub]
  refine CallW_use (fields75 x clock next h) ?_
  simp [wk, vk, ek, ok, lk, buildD, fillD, thr, dSub]
  refine hK _ ?_
  refine CW_no rfl ?_
  refine CW_sk ?_
  refine CW_reg fun K_ hK => ?_
  simp [wk, vk, ek, ok, lk, buildD, fillD, thr, dSub]
  refine hK _ ?_
  refine CW_seq1 ?_
  refine CW_reg fun K_ hK => ?_
  simp [wk, vk, ek, ok, lk, buildD, fillD, thr, dSub]
  refine hK _ ?_
  refine CW_for (fun j τ => ∃ (i last : Nat), j = x.acks.length - i ∧ Rise last (x.acks.drop i) ∧ τ.fr 1 = .i .i64 clock ∧ τ.fr 2 = .i .i64 next ∧ τ.fr 3 = .p 3 0 0 ∧ τ.bx 3 0 = some (dSub x) ∧ τ.fr 7 = .i .i64 last ∧ τ.fr 8 = .i .i64 i) (x.acks.length) ?_ ?_
  · exact ⟨0, x.floor, rfl, h.ok.rise, by simp [upd], by simp [upd], by simp [upd], by simp [upd2, dSub], by simp [upd], by simp [upd]⟩
  · rintro j ⟨fr, bx, tp, c⟩ ⟨i, last, rfl, hri, f1, f2, f3, b3, f7, f8⟩ K0 hN0 hX0 hR0 hJ0
    simp only at f1 f2 f3 b3 f7 f8
    rw [dSub] at b3
    refine CW_seq1 ?_
    refine CW_reg fun K_ hK => ?_
    simp [wk, vk, ek, ok, lk, buildD, fillD, thr, f1, f2, f3, b3, f7, f8]
    refine hK _ ?_
    refine CW_cond rfl (fun hct21 => ?_) (fun hct21 => ?_)
    · have hil : i < x.acks.length := by simpa [wk, vk, ek, ok, f3, b3, f8] using hct21
      rw [List.drop_eq_getElem_cons hil] at hri
      have l1 : ¬ (x.acks[i] : Int) ≤ (last : Int) := by have := hri.1; omega
      have l1n : ¬ x.acks[i] ≤ last := by have := hri.1; omega
      have l2n : ¬ next ≤ x.acks[i] := by have := h.ackn _ (List.getElem_mem hil); omega
      have l2 : ¬ (next : Int) ≤ (x.acks[i] : Int) := by omega
      refine CW_sk ?_
      refine CW_seq1 ?_
      refine CW_blk fun K1 hn1 hx1 hr1 hj1 => ?_
      refine CW_seq1 ?_
      refine CW_reg fun K_ hK => ?_
      simp [wk, vk, ek, ok, lk, buildD, fillD, thr, f1, f2, f3, b3, f7, f8, hil, l1, l1n, l2, l2n]
      refine hK _ ?_
      refine CW_no rfl ?_
      refine CW_sk ?_
      refine CW_reg1 fun K_ hK => ?_
      simp [wk, vk, ek, ok, lk, buildD, fillD, thr, f1, f2, f3, b3, f7, f8, hil, l1, l1n, l2, l2n]
      refine hK _ ?_
      refine hn1 _ ?_
      refine CW_reg1 fun K_ hK => ?_
      simp [wk, vk, ek, ok, lk, buildD, fillD, thr, f1, f2, f3, b3, f7, f8, hil, l1, l1n, l2, l2n]
      refine hK _ ?_
      refine hN0 (x.acks.length - (i + 1)) _ (by omega) ⟨i + 1, x.acks[i], rfl, hri.2, by simp [upd, f1], by simp [upd, f2], by simp [upd, f3], by simp [upd2, b3, dSub], by simp [upd], ?_⟩
      simp [upd]; rw [w64 (by omega) (by omega)]
    · refine CW_ex ?_
      refine hX0 _ ?_
      refine CW_reg fun K_ hK => ?_
      simp [wk, vk, ek, ok, lk, buildD, fillD, thr, f1, f2, f3, b3]
      refine hK _ ?_
      refine CW_seq1 ?_
      refine CW_reg fun K_ hK => ?_
      simp [wk, vk, ek, ok, lk, buildD, fillD, thr, f1, f2, f3, b3]
      refine hK _ ?_
      refine CW_for (fun j τ => ∃ (i last : Nat), j = x.queue.length - i ∧ Rise last ((x.queue.drop i).map (·.seq)) ∧ τ.fr 1 = .i .i64 clock ∧ τ.fr 2 = .i .i64 next ∧ τ.fr 3 = .p 3 0 0 ∧ τ.bx 3 0 = some (dSub x) ∧ τ.fr 7 = .i .i64 last ∧ τ.fr 9 = .i .i64 i) (x.queue.length) ?_ ?_
      · exact ⟨0, x.floor, rfl, h.ok.qrise, by simp [upd, f1], by simp [upd, f2], by simp [upd, f3], by simp [upd2, b3, dSub], by simp [upd], by simp [upd]⟩
      · rintro j ⟨fr, bx, tp, c⟩ ⟨i, last, rfl, hri, f1, f2, f3, b3, f7, f9⟩ K2 hN2 hX2 hR2 hJ2
        simp only at f1 f2 f3 b3 f7 f9
        rw [dSub] at b3
        refine CW_seq1 ?_
        refine CW_reg fun K_ hK => ?_
        simp [wk, vk, ek, ok, lk, buildD, fillD, thr, f1, f2, f3, b3, f7, f9]
        refine hK _ ?_
        refine CW_cond rfl (fun hct51 => ?_) (fun hct51 => ?_)
        · have hil : i < x.queue.length := by simpa [wk, vk, ek, ok, f3, b3, f9] using hct51
          rw [List.drop_eq_getElem_cons hil, List.map_cons] at hri
          have l1 : ¬ (x.queue[i].seq : Int) ≤ (last : Int) := by have := hri.1; omega
          have l1n : ¬ x.queue[i].seq ≤ last := by have := hri.1; omega
          have l2n : ¬ next ≤ x.queue[i].seq := by have := h.seqn _ (List.getElem_mem hil); omega
          have l2 : ¬ (next : Int) ≤ (x.queue[i].seq : Int) := by omega
          refine CW_sk ?_
          refine CW_seq1 ?_
          refine CW_blk fun K3 hn3 hx3 hr3 hj3 => ?_
          refine CW_reg fun K_ hK => ?_
          simp [wk, vk, ek, ok, lk, buildD, fillD, thr, f1, f2, f3, b3, f7, f9, hil, l1, l1n, l2, l2n, dMsg]
          refine hK _ ?_
          refine CW_seq1 ?_
          refine CW_reg fun K_ hK => ?_
          simp [wk, vk, ek, ok, lk, buildD, fillD, thr, f1, f2, f3, b3, f7, f9, hil, l1, l1n, l2, l2n, dMsg]
          refine CallW_use (acked76 x.acks x.queue[i].seq (h.dis _ (List.getElem_mem hil)) (by omega)) ?_
          simp [wk, vk, ek, ok, lk, buildD, fillD, thr, f1, f2, f3, b3, f7, f9, hil, l1, l1n, l2, l2n, dMsg]
          refine CallW_use (message77 x.queue[i] x clock (h.ok.msgs _ (List.getElem_mem hil)) (h.msgs _ (List.getElem_mem hil)) ⟨h.most.2, h.lease.2⟩ hc) ?_
          simp [wk, vk, ek, ok, lk, buildD, fillD, thr, f1, f2, f3, b3, f7, f9, hil, l1, l1n, l2, l2n, dMsg]
          refine hK _ ?_
          refine CW_no rfl ?_
          refine CW_sk ?_
          refine CW_reg1 fun K_ hK => ?_
          simp [wk, vk, ek, ok, lk, buildD, fillD, thr, f1, f2, f3, b3, f7, f9, hil, l1, l1n, l2, l2n, dMsg]
          refine hK _ ?_
          refine hn3 _ ?_
          refine CW_reg1 fun K_ hK => ?_
          simp [wk, vk, ek, ok, lk, buildD, fillD, thr, f1, f2, f3, b3, f7, f9, hil, l1, l1n, l2, l2n, dMsg]
          refine hK _ ?_
          refine hN2 (x.queue.length - (i + 1)) _ (by omega) ⟨i + 1, x.queue[i].seq, rfl, hri.2, by simp [upd, f1], by simp [upd, f2], by simp [upd, f3], by simp [upd2, b3, dSub], by simp [upd], ?_⟩
          simp [upd]; rw [w64 (by omega) (by omega)]
        · refine CW_ex ?_
          refine hX2 _ ?_
          refine CW_reg fun K_ hK => ?_
          simp [wk, vk, ek, ok, lk, buildD, fillD, thr, f1, f2, f3, b3]
          refine hK _ ?_
          refine CW_rt ?_
          refine ends_ret ?_
          simp [Tryz.results46, resD, resL, resD1, vk, wk, ok, lk, buildD, fillD, ek, f1, f2, f3, b3]
theorem right31 (s : Sta) (h : StaG s) : Fc T W 31 [dSta s] (.b true) := by
  obtain ⟨hc, ⟨hn1, hn2⟩, hla, hlen, hsub, hrise, hle⟩ := h
  have a1 : ¬ (s.clock : Int) < 0 := by omega
  have a2 : ¬ (4503599627370496 : Int) < (s.clock : Int) := by omega
  have a2n : ¬ 4503599627370496 < s.clock := by omega
  have a3 : ¬ (s.next : Int) < 1 := by omega
  have a3n : ¬ s.next < 1 := by omega
  have a3z : ¬ s.next = 0 := by omega
  have a4 : ¬ (1073741824 : Int) < (s.next : Int) := by omega
  have a4n : ¬ 1073741824 < s.next := by omega
  have a5 : ¬ (s.last : Int) < 0 := by omega
  have a6 : ¬ (1073741824 : Int) < (s.last : Int) := by omega
  have a6n : ¬ 1073741824 < s.last := by omega
  have a7 : ¬ (20 : Int) < (s.subs.length : Int) := by omega
  have a7n : ¬ 20 < s.subs.length := by omega
  refine Fc_intro (thr := thr) hmix Tryz.func31 rfl (by kernel_rfl) (by simp [Tryz.ntmps31]) ?_
  refine CW_reg fun K_ hK => ?_
  simp [wk, vk, ek, ok, lk, buildD, fillD, thr, dSta]
  refine hK _ ?_
  refine CW_seq1 ?_
  refine CW_reg fun K_ hK => ?_
  simp [wk, vk, ek, ok, lk, buildD, fillD, thr, dSta, a1, a2, a2n, a3, a3n, a3z, a4, a4n, a5, a6, a6n, a7, a7n]
  refine hK _ ?_
  refine CW_no rfl ?_
  refine CW_sk ?_
  refine CW_reg fun K_ hK => ?_
  simp [wk, vk, ek, ok, lk, buildD, fillD, thr, dSta]
  refine hK _ ?_
  refine CW_seq1 ?_
  refine CW_reg fun K_ hK => ?_
  simp [wk, vk, ek, ok, lk, buildD, fillD, thr, dSta]
  refine hK _ ?_
  refine CW_for (fun j τ => ∃ (i last : Nat), j = s.subs.length - i ∧ Rise last ((s.subs.drop i).map (·.id)) ∧ τ.fr 1 = .p 1 0 0 ∧ τ.bx 1 0 = some (dSta s) ∧ τ.fr 3 = .i .i64 last ∧ τ.fr 4 = .i .i64 i) (s.subs.length) ?_ ?_
  · exact ⟨0, 0, rfl, hrise, by simp [upd], by simp [upd2, dSta], by simp [upd], by simp [upd]⟩
  · rintro j ⟨fr, bx, tp, c⟩ ⟨i, last, rfl, hri, f1, b1, f3, f4⟩ K0 hN0 hX0 hR0 hJ0
    simp only at f1 b1 f3 f4
    rw [dSta] at b1
    refine CW_seq1 ?_
    refine CW_reg fun K_ hK => ?_
    simp [wk, vk, ek, ok, lk, buildD, fillD, thr, f1, b1, f3, f4]
    refine hK _ ?_
    refine CW_cond rfl (fun hct43 => ?_) (fun hct43 => ?_)
    · have hil : i < s.subs.length := by simpa [wk, vk, ek, ok, f1, b1, f4] using hct43
      rw [List.drop_eq_getElem_cons hil, List.map_cons] at hri
      have l1 : ¬ (s.subs[i].id : Int) ≤ (last : Int) := by have := hri.1; omega
      have l1n : ¬ s.subs[i].id ≤ last := by have := hri.1; omega
      have l2n : ¬ s.last < s.subs[i].id := by have := hle _ (List.getElem_mem hil); omega
      have l2 : ¬ (s.last : Int) < (s.subs[i].id : Int) := by omega
      refine CW_sk ?_
      refine CW_seq1 ?_
      refine CW_blk fun K1 hn1 hx1 hr1 hj1 => ?_
      refine CW_seq1 ?_
      refine CW_reg fun K_ hK => ?_
      simp [wk, vk, ek, ok, lk, buildD, fillD, thr, f1, b1, f3, f4, hil, l1, l1n, l2, l2n, dSub]
      refine CallW_use (good46 s.subs[i] s.clock s.next (hsub _ (List.getElem_mem hil)) (by omega)) ?_
      simp [wk, vk, ek, ok, lk, buildD, fillD, thr, f1, b1, f3, f4, hil, l1, l1n, l2, l2n, dSub]
      refine hK _ ?_
      refine CW_no rfl ?_
      refine CW_sk ?_
      refine CW_reg1 fun K_ hK => ?_
      simp [wk, vk, ek, ok, lk, buildD, fillD, thr, f1, b1, f3, f4, hil, l1, l1n, l2, l2n, dSub]
      refine hK _ ?_
      refine hn1 _ ?_
      refine CW_reg1 fun K_ hK => ?_
      simp [wk, vk, ek, ok, lk, buildD, fillD, thr, f1, b1, f3, f4, hil, l1, l1n, l2, l2n]
      refine hK _ ?_
      refine hN0 (s.subs.length - (i + 1)) _ (by omega) ⟨i + 1, s.subs[i].id, rfl, hri.2, by simp [upd, f1], by simp [upd2, b1, dSta], by simp [upd], ?_⟩
      simp [upd]; rw [w64 (by omega) (by omega)]
    · refine CW_ex ?_
      refine hX0 _ ?_
      refine CW_reg fun K_ hK => ?_
      simp [wk, vk, ek, ok, lk, buildD, fillD, thr, f1, b1]
      refine hK _ ?_
      refine CW_rt ?_
      refine ends_ret ?_
      simp [Tryz.results31, resD, resL, resD1, vk, wk, ok, lk, buildD, fillD, ek, f1, b1]
end Go.Proofs.YtobamidecbfgpaaGreatDoor
