/- Messages and subscriptions read back, over the shadow. No condition. -/
import Derived.Test.YtobamidecbfgpaaGreatDoorGa
namespace Go.Proofs.YtobamidecbfgpaaGreatDoor
open Go Go.Sh Go.RowKit
set_option linter.unusedVariables false
set_option linter.unusedSimpArgs false
set_option maxRecDepth 10000
variable {W : World}
structure MsgOK (m : Msg) : Prop where
  seq : m.seq ≤ 9999
  body : m.body.length ≤ 60
  attr : m.attr.length ≤ 30
  tries : m.tries ≤ 9999
  til : m.til ≤ 9999
  prio : m.prio ≤ 9
  why : m.why = whyS (deathN m)
structure SubOK (x : Sub) : Prop where
  id : x.id ≤ 9999
  name : x.name.length ≤ 30
  topic : x.topic.length ≤ 30
  want : x.want.length ≤ 30
  lease : x.lease ≤ 9999
  most : x.most ≤ 9999
  floor : x.floor ≤ 9999
  note : x.note.length ≤ 30
  acks : x.acks.length ≤ 20
  ackle : ∀ a ∈ x.acks, a ≤ 9999
  rise : Rise x.floor x.acks
  queue : x.queue.length ≤ 30
  msgs : ∀ m ∈ x.queue, MsgOK m
  qrise : Rise x.floor (x.queue.map (·.seq))
theorem deathN_le (m : Msg) : deathN m ≤ 2 := by unfold deathN; split <;> (try split) <;> omega
theorem deathN_pos (m : Msg) : decide (0 < deathN m) = m.dead := by
  unfold deathN; cases m.dead <;> simp
  split <;> omega
theorem isDead_one (m : Msg) : (isDead m = 1) = (m.dead = true) := by unfold isDead; cases m.dead <;> simp
theorem isDead_le (m : Msg) : isDead m ≤ 1 := by unfold isDead; split <;> omega
theorem msg72 (m : Msg) (h : MsgOK m) : Fc T W 72 [.i .i64 m.seq, dBytes (textB m.body ++ (textB m.attr ++ (numB m.tries ++ (numB m.til ++ (numB m.prio ++ (numB (deathN m)))))))] (dMsg m) := by
  obtain ⟨B, hB⟩ : ∃ B, B = textB m.body ++ (textB m.attr ++ (numB m.tries ++ (numB m.til ++ (numB m.prio ++ (numB (deathN m)))))) := ⟨_, rfl⟩
  rw [← hB]
  have hq0 := textB_len m.body (by have := h.body; omega)
  have hq1 := textB_len m.attr (by have := h.attr; omega)
  have hq2 := numB_len8 (n := m.tries) (by have := h.tries; omega)
  have hq3 := numB_len8 (n := m.til) (by have := h.til; omega)
  have hq4 := numB_len8 (n := m.prio) (by have := h.prio; omega)
  have hq5 := numB_len8 (n := (deathN m)) (by have := deathN_le m; omega)
  have hBl : B.length ≤ 100000000 := by rw [hB]; (try simp); omega
  obtain ⟨k1, hk1⟩ : ∃ k, k = 0 + (textB m.body).length := ⟨_, rfl⟩
  obtain ⟨k2, hk2⟩ : ∃ k, k = k1 + (textB m.attr).length := ⟨_, rfl⟩
  obtain ⟨k3, hk3⟩ : ∃ k, k = k2 + (numB m.tries).length := ⟨_, rfl⟩
  obtain ⟨k4, hk4⟩ : ∃ k, k = k3 + (numB m.til).length := ⟨_, rfl⟩
  obtain ⟨k5, hk5⟩ : ∃ k, k = k4 + (numB m.prio).length := ⟨_, rfl⟩
  obtain ⟨k6, hk6⟩ : ∃ k, k = k5 + (numB (deathN m)).length := ⟨_, rfl⟩
  have e1 : ¬ (2 : Int) < ((deathN m : Nat) : Int) := by have := deathN_le m; omega
  have e2 := deathN_pos m
  have e3 := h.why.symm
  have e4 : ¬ 2 < deathN m := by have := deathN_le m; omega
  have e5 : (if 2 < deathN m then (2 : Int) else ((deathN m : Nat) : Int)) = ((deathN m : Nat) : Int) := if_neg e4
  refine Fc_intro (thr := thr) hmix Tryz.func72 rfl (by kernel_rfl) (by simp [Tryz.ntmps72]) ?_
  refine CW_reg fun K_ hK => ?_
  simp [wk, vk, ek, ok, buildD, fillD, thr, dR, e1, e2, e3, e4, e5]
  refine hK _ ?_
  refine CW_reg fun K_ hK => ?_
  simp [wk, vk, ek, ok, buildD, fillD, thr, dR, e1, e2, e3, e4, e5]
  refine hK _ ?_
  refine CW_reg fun K_ hK => ?_
  simp [wk, vk, ek, ok, buildD, fillD, thr, dR, e1, e2, e3, e4, e5]
  refine CallW_use (by have h := rText112 (W := W) ([]) (textB m.attr ++ (numB m.tries ++ (numB m.til ++ (numB m.prio ++ (numB (deathN m)))))) (m.body) 60 (by have := h.body; omega) (by omega) B (by simp [hB]) hBl 0 rfl; rw [← hk1] at h; exact h) ?_
  simp [wk, vk, ek, ok, buildD, fillD, thr, dR, e1, e2, e3, e4, e5]
  refine hK _ ?_
  refine CW_reg fun K_ hK => ?_
  simp [wk, vk, ek, ok, buildD, fillD, thr, dR, e1, e2, e3, e4, e5]
  refine CallW_use (by have h := rText112 (W := W) (textB m.body) (numB m.tries ++ (numB m.til ++ (numB m.prio ++ (numB (deathN m))))) (m.attr) 30 (by have := h.attr; omega) (by omega) B (by simp [hB]) hBl k1 (by simp [hk1]); rw [← hk2] at h; exact h) ?_
  simp [wk, vk, ek, ok, buildD, fillD, thr, dR, e1, e2, e3, e4, e5]
  refine hK _ ?_
  refine CW_reg fun K_ hK => ?_
  simp [wk, vk, ek, ok, buildD, fillD, thr, dR, e1, e2, e3, e4, e5]
  refine CallW_use (by have h := rNum111 (W := W) (textB m.body ++ (textB m.attr)) (numB m.til ++ (numB m.prio ++ (numB (deathN m)))) (m.tries) (by have := h.tries; omega) B (by simp [hB]) hBl k2 (by rw [hk2, hk1]; simp <;> omega); rw [← hk3] at h; exact h) ?_
  simp [wk, vk, ek, ok, buildD, fillD, thr, dR, e1, e2, e3, e4, e5]
  refine hK _ ?_
  refine CW_reg fun K_ hK => ?_
  simp [wk, vk, ek, ok, buildD, fillD, thr, dR, e1, e2, e3, e4, e5]
  refine CallW_use (by have h := rNum111 (W := W) (textB m.body ++ (textB m.attr ++ (numB m.tries))) (numB m.prio ++ (numB (deathN m))) (m.til) (by have := h.til; omega) B (by simp [hB]) hBl k3 (by rw [hk3, hk2, hk1]; simp <;> omega); rw [← hk4] at h; exact h) ?_
  simp [wk, vk, ek, ok, buildD, fillD, thr, dR, e1, e2, e3, e4, e5]
  refine hK _ ?_
  refine CW_reg fun K_ hK => ?_
  simp [wk, vk, ek, ok, buildD, fillD, thr, dR, e1, e2, e3, e4, e5]
  refine CallW_use (by have h := rNum111 (W := W) (textB m.body ++ (textB m.attr ++ (numB m.tries ++ (numB m.til)))) (numB (deathN m)) (m.prio) (by have := h.prio; omega) B (by simp [hB]) hBl k4 (by rw [hk4, hk3, hk2, hk1]; simp <;> omega); rw [← hk5] at h; exact h) ?_
  simp [wk, vk, ek, ok, buildD, fillD, thr, dR, e1, e2, e3, e4, e5]
  refine hK _ ?_
  refine CW_reg fun K_ hK => ?_
  simp [wk, vk, ek, ok, buildD, fillD, thr, dR, e1, e2, e3, e4, e5]
  refine CallW_use (by have h := rNum111 (W := W) (textB m.body ++ (textB m.attr ++ (numB m.tries ++ (numB m.til ++ (numB m.prio))))) ([]) ((deathN m)) (by have := deathN_le m; omega) B (by simp [hB]) hBl k5 (by rw [hk5, hk4, hk3, hk2, hk1]; simp <;> omega); rw [← hk6] at h; exact h) ?_
  simp [wk, vk, ek, ok, buildD, fillD, thr, dR, e1, e2, e3, e4, e5]
  refine hK _ ?_
  refine CW_reg fun K_ hK => ?_
  simp [wk, vk, ek, ok, buildD, fillD, thr, dR, e1, e2, e3, e4, e5]
  refine CallW_use (why113 (deathN m) (deathN_le m)) ?_
  simp [wk, vk, ek, ok, buildD, fillD, thr, dR, e1, e2, e3, e4, e5]
  refine hK _ ?_
  refine CW_rt ?_
  refine ends_ret ?_
  simp [Tryz.results72, resD, resL, resD1, vk, wk, ok, buildD, fillD, ek, dMsg, dR, e1, e2, e3, e4, e5]
theorem msg103 (m : Msg) (h : MsgOK m) : Fc T W 103 [.i .i64 m.seq, dBytes (textB m.body ++ (textB m.attr ++ (numB m.tries ++ (numB m.til ++ (numB (isDead m))))))] (dMsg { m with prio := 0, why := [] }) := by
  obtain ⟨B, hB⟩ : ∃ B, B = textB m.body ++ (textB m.attr ++ (numB m.tries ++ (numB m.til ++ (numB (isDead m))))) := ⟨_, rfl⟩
  rw [← hB]
  have hq0 := textB_len m.body (by have := h.body; omega)
  have hq1 := textB_len m.attr (by have := h.attr; omega)
  have hq2 := numB_len8 (n := m.tries) (by have := h.tries; omega)
  have hq3 := numB_len8 (n := m.til) (by have := h.til; omega)
  have hq4 := numB_len8 (n := (isDead m)) (by have := isDead_le m; omega)
  have hBl : B.length ≤ 100000000 := by rw [hB]; (try simp); omega
  obtain ⟨k1, hk1⟩ : ∃ k, k = 0 + (textB m.body).length := ⟨_, rfl⟩
  obtain ⟨k2, hk2⟩ : ∃ k, k = k1 + (textB m.attr).length := ⟨_, rfl⟩
  obtain ⟨k3, hk3⟩ : ∃ k, k = k2 + (numB m.tries).length := ⟨_, rfl⟩
  obtain ⟨k4, hk4⟩ : ∃ k, k = k3 + (numB m.til).length := ⟨_, rfl⟩
  obtain ⟨k5, hk5⟩ : ∃ k, k = k4 + (numB (isDead m)).length := ⟨_, rfl⟩
  have e1 : (((isDead m : Nat) : Int) == 1) = m.dead := by unfold isDead; cases m.dead <;> rfl
  refine Fc_intro (thr := thr) hmix Tryz.func103 rfl (by kernel_rfl) (by simp [Tryz.ntmps103]) ?_
  refine CW_reg fun K_ hK => ?_
  simp [wk, vk, ek, ok, buildD, fillD, thr, dR, e1]
  refine hK _ ?_
  refine CW_reg fun K_ hK => ?_
  simp [wk, vk, ek, ok, buildD, fillD, thr, dR, e1]
  refine hK _ ?_
  refine CW_reg fun K_ hK => ?_
  simp [wk, vk, ek, ok, buildD, fillD, thr, dR, e1]
  refine hK _ ?_
  refine CW_reg fun K_ hK => ?_
  simp [wk, vk, ek, ok, buildD, fillD, thr, dR, e1]
  refine CallW_use (by have h := rText102 (W := W) ([]) (textB m.attr ++ (numB m.tries ++ (numB m.til ++ (numB (isDead m))))) (m.body) 60 (by have := h.body; omega) (by omega) B (by simp [hB]) hBl 0 rfl; rw [← hk1] at h; exact h) ?_
  simp [wk, vk, ek, ok, buildD, fillD, thr, dR, e1]
  refine hK _ ?_
  refine CW_reg fun K_ hK => ?_
  simp [wk, vk, ek, ok, buildD, fillD, thr, dR, e1]
  refine CallW_use (by have h := rText102 (W := W) (textB m.body) (numB m.tries ++ (numB m.til ++ (numB (isDead m)))) (m.attr) 30 (by have := h.attr; omega) (by omega) B (by simp [hB]) hBl k1 (by simp [hk1]); rw [← hk2] at h; exact h) ?_
  simp [wk, vk, ek, ok, buildD, fillD, thr, dR, e1]
  refine hK _ ?_
  refine CW_reg fun K_ hK => ?_
  simp [wk, vk, ek, ok, buildD, fillD, thr, dR, e1]
  refine CallW_use (by have h := rNum126 (W := W) (textB m.body ++ (textB m.attr)) (numB m.til ++ (numB (isDead m))) (m.tries) (by have := h.tries; omega) B (by simp [hB]) hBl k2 (by rw [hk2, hk1]; simp <;> omega); rw [← hk3] at h; exact h) ?_
  simp [wk, vk, ek, ok, buildD, fillD, thr, dR, e1]
  refine hK _ ?_
  refine CW_reg fun K_ hK => ?_
  simp [wk, vk, ek, ok, buildD, fillD, thr, dR, e1]
  refine CallW_use (by have h := rNum126 (W := W) (textB m.body ++ (textB m.attr ++ (numB m.tries))) (numB (isDead m)) (m.til) (by have := h.til; omega) B (by simp [hB]) hBl k3 (by rw [hk3, hk2, hk1]; simp <;> omega); rw [← hk4] at h; exact h) ?_
  simp [wk, vk, ek, ok, buildD, fillD, thr, dR, e1]
  refine hK _ ?_
  refine CW_reg fun K_ hK => ?_
  simp [wk, vk, ek, ok, buildD, fillD, thr, dR, e1]
  refine CallW_use (by have h := rNum126 (W := W) (textB m.body ++ (textB m.attr ++ (numB m.tries ++ (numB m.til)))) ([]) ((isDead m)) (by have := isDead_le m; omega) B (by simp [hB]) hBl k4 (by rw [hk4, hk3, hk2, hk1]; simp <;> omega); rw [← hk5] at h; exact h) ?_
  simp [wk, vk, ek, ok, buildD, fillD, thr, dR, e1]
  refine hK _ ?_
  refine CW_reg fun K_ hK => ?_
  simp [wk, vk, ek, ok, buildD, fillD, thr, dR, e1]
  refine hK _ ?_
  refine CW_reg fun K_ hK => ?_
  simp [wk, vk, ek, ok, buildD, fillD, thr, dR, e1]
  refine hK _ ?_
  refine CW_reg fun K_ hK => ?_
  simp [wk, vk, ek, ok, buildD, fillD, thr, dR, e1]
  refine hK _ ?_
  refine CW_reg fun K_ hK => ?_
  simp [wk, vk, ek, ok, buildD, fillD, thr, dR, e1]
  refine hK _ ?_
  refine CW_reg fun K_ hK => ?_
  simp [wk, vk, ek, ok, buildD, fillD, thr, dR, e1]
  refine hK _ ?_
  refine CW_reg fun K_ hK => ?_
  simp [wk, vk, ek, ok, buildD, fillD, thr, dR, e1]
  refine hK _ ?_
  refine CW_rt ?_
  refine ends_ret ?_
  simp [Tryz.results103, resD, resL, resD1, vk, wk, ok, buildD, fillD, ek, dMsg, dR, e1]
theorem sub104 (x y : Sub) (h : SubOK y) : Fc T W 104 [dSub x, dBytes (textB y.name ++ (textB y.topic ++ (numB y.lease ++ (numB y.most ++ (numB y.floor)))))] (dSub { x with name := y.name, topic := y.topic, lease := y.lease, most := y.most, floor := y.floor }) := by
  obtain ⟨B, hB⟩ : ∃ B, B = textB y.name ++ (textB y.topic ++ (numB y.lease ++ (numB y.most ++ (numB y.floor)))) := ⟨_, rfl⟩
  rw [← hB]
  have hq0 := textB_len y.name (by have := h.name; omega)
  have hq1 := textB_len y.topic (by have := h.topic; omega)
  have hq2 := numB_len8 (n := y.lease) (by have := h.lease; omega)
  have hq3 := numB_len8 (n := y.most) (by have := h.most; omega)
  have hq4 := numB_len8 (n := y.floor) (by have := h.floor; omega)
  have hBl : B.length ≤ 100000000 := by rw [hB]; (try simp); omega
  obtain ⟨k1, hk1⟩ : ∃ k, k = 0 + (textB y.name).length := ⟨_, rfl⟩
  obtain ⟨k2, hk2⟩ : ∃ k, k = k1 + (textB y.topic).length := ⟨_, rfl⟩
  obtain ⟨k3, hk3⟩ : ∃ k, k = k2 + (numB y.lease).length := ⟨_, rfl⟩
  obtain ⟨k4, hk4⟩ : ∃ k, k = k3 + (numB y.most).length := ⟨_, rfl⟩
  obtain ⟨k5, hk5⟩ : ∃ k, k = k4 + (numB y.floor).length := ⟨_, rfl⟩
  refine Fc_intro (thr := thr) hmix Tryz.func104 rfl (by kernel_rfl) (by simp [Tryz.ntmps104]) ?_
  refine CW_reg fun K_ hK => ?_
  simp [wk, vk, ek, ok, buildD, fillD, thr, dR, dSub]
  refine hK _ ?_
  refine CW_reg fun K_ hK => ?_
  simp [wk, vk, ek, ok, buildD, fillD, thr, dR, dSub]
  refine hK _ ?_
  refine CW_reg fun K_ hK => ?_
  simp [wk, vk, ek, ok, buildD, fillD, thr, dR, dSub]
  refine CallW_use (by have h := rText102 (W := W) ([]) (textB y.topic ++ (numB y.lease ++ (numB y.most ++ (numB y.floor)))) (y.name) 30 (by have := h.name; omega) (by omega) B (by simp [hB]) hBl 0 rfl; rw [← hk1] at h; exact h) ?_
  simp [wk, vk, ek, ok, buildD, fillD, thr, dR, dSub]
  refine hK _ ?_
  refine CW_reg fun K_ hK => ?_
  simp [wk, vk, ek, ok, buildD, fillD, thr, dR, dSub]
  refine CallW_use (by have h := rText102 (W := W) (textB y.name) (numB y.lease ++ (numB y.most ++ (numB y.floor))) (y.topic) 30 (by have := h.topic; omega) (by omega) B (by simp [hB]) hBl k1 (by simp [hk1]); rw [← hk2] at h; exact h) ?_
  simp [wk, vk, ek, ok, buildD, fillD, thr, dR, dSub]
  refine hK _ ?_
  refine CW_reg fun K_ hK => ?_
  simp [wk, vk, ek, ok, buildD, fillD, thr, dR, dSub]
  refine CallW_use (by have h := rNum126 (W := W) (textB y.name ++ (textB y.topic)) (numB y.most ++ (numB y.floor)) (y.lease) (by have := h.lease; omega) B (by simp [hB]) hBl k2 (by rw [hk2, hk1]; simp <;> omega); rw [← hk3] at h; exact h) ?_
  simp [wk, vk, ek, ok, buildD, fillD, thr, dR, dSub]
  refine hK _ ?_
  refine CW_reg fun K_ hK => ?_
  simp [wk, vk, ek, ok, buildD, fillD, thr, dR, dSub]
  refine CallW_use (by have h := rNum126 (W := W) (textB y.name ++ (textB y.topic ++ (numB y.lease))) (numB y.floor) (y.most) (by have := h.most; omega) B (by simp [hB]) hBl k3 (by rw [hk3, hk2, hk1]; simp <;> omega); rw [← hk4] at h; exact h) ?_
  simp [wk, vk, ek, ok, buildD, fillD, thr, dR, dSub]
  refine hK _ ?_
  refine CW_reg fun K_ hK => ?_
  simp [wk, vk, ek, ok, buildD, fillD, thr, dR, dSub]
  refine CallW_use (by have h := rNum126 (W := W) (textB y.name ++ (textB y.topic ++ (numB y.lease ++ (numB y.most)))) ([]) (y.floor) (by have := h.floor; omega) B (by simp [hB]) hBl k4 (by rw [hk4, hk3, hk2, hk1]; simp <;> omega); rw [← hk5] at h; exact h) ?_
  simp [wk, vk, ek, ok, buildD, fillD, thr, dR, dSub]
  refine hK _ ?_
  refine CW_reg fun K_ hK => ?_
  simp [wk, vk, ek, ok, buildD, fillD, thr, dR, dSub]
  refine hK _ ?_
  refine CW_reg fun K_ hK => ?_
  simp [wk, vk, ek, ok, buildD, fillD, thr, dR, dSub]
  refine hK _ ?_
  refine CW_reg fun K_ hK => ?_
  simp [wk, vk, ek, ok, buildD, fillD, thr, dR, dSub]
  refine hK _ ?_
  refine CW_reg fun K_ hK => ?_
  simp [wk, vk, ek, ok, buildD, fillD, thr, dR, dSub]
  refine hK _ ?_
  refine CW_reg fun K_ hK => ?_
  simp [wk, vk, ek, ok, buildD, fillD, thr, dR, dSub]
  refine hK _ ?_
  refine CW_reg fun K_ hK => ?_
  simp [wk, vk, ek, ok, buildD, fillD, thr, dR, dSub]
  refine hK _ ?_
  refine CW_rt ?_
  refine ends_ret ?_
  simp [Tryz.results104, resD, resL, resD1, vk, wk, ok, buildD, fillD, ek, dSub, dR, dSub]
theorem sub110 (x y : Sub) (h : SubOK y) : Fc T W 110 [dSub x, dBytes (textB y.name ++ (textB y.topic ++ (textB y.want ++ (numB y.lease ++ (numB y.most ++ (numB y.floor))))))] (dSub { x with name := y.name, topic := y.topic, want := y.want, lease := y.lease, most := y.most, floor := y.floor }) := by
  obtain ⟨B, hB⟩ : ∃ B, B = textB y.name ++ (textB y.topic ++ (textB y.want ++ (numB y.lease ++ (numB y.most ++ (numB y.floor))))) := ⟨_, rfl⟩
  rw [← hB]
  have hq0 := textB_len y.name (by have := h.name; omega)
  have hq1 := textB_len y.topic (by have := h.topic; omega)
  have hq2 := textB_len y.want (by have := h.want; omega)
  have hq3 := numB_len8 (n := y.lease) (by have := h.lease; omega)
  have hq4 := numB_len8 (n := y.most) (by have := h.most; omega)
  have hq5 := numB_len8 (n := y.floor) (by have := h.floor; omega)
  have hBl : B.length ≤ 100000000 := by rw [hB]; (try simp); omega
  obtain ⟨k1, hk1⟩ : ∃ k, k = 0 + (textB y.name).length := ⟨_, rfl⟩
  obtain ⟨k2, hk2⟩ : ∃ k, k = k1 + (textB y.topic).length := ⟨_, rfl⟩
  obtain ⟨k3, hk3⟩ : ∃ k, k = k2 + (textB y.want).length := ⟨_, rfl⟩
  obtain ⟨k4, hk4⟩ : ∃ k, k = k3 + (numB y.lease).length := ⟨_, rfl⟩
  obtain ⟨k5, hk5⟩ : ∃ k, k = k4 + (numB y.most).length := ⟨_, rfl⟩
  obtain ⟨k6, hk6⟩ : ∃ k, k = k5 + (numB y.floor).length := ⟨_, rfl⟩
  refine Fc_intro (thr := thr) hmix Tryz.func110 rfl (by kernel_rfl) (by simp [Tryz.ntmps110]) ?_
  refine CW_reg fun K_ hK => ?_
  simp [wk, vk, ek, ok, buildD, fillD, thr, dR, dSub]
  refine hK _ ?_
  refine CW_reg fun K_ hK => ?_
  simp [wk, vk, ek, ok, buildD, fillD, thr, dR, dSub]
  refine hK _ ?_
  refine CW_reg fun K_ hK => ?_
  simp [wk, vk, ek, ok, buildD, fillD, thr, dR, dSub]
  refine CallW_use (by have h := rText108 (W := W) ([]) (textB y.topic ++ (textB y.want ++ (numB y.lease ++ (numB y.most ++ (numB y.floor))))) (y.name) 30 (by have := h.name; omega) (by omega) B (by simp [hB]) hBl 0 rfl; rw [← hk1] at h; exact h) ?_
  simp [wk, vk, ek, ok, buildD, fillD, thr, dR, dSub]
  refine hK _ ?_
  refine CW_reg fun K_ hK => ?_
  simp [wk, vk, ek, ok, buildD, fillD, thr, dR, dSub]
  refine CallW_use (by have h := rText108 (W := W) (textB y.name) (textB y.want ++ (numB y.lease ++ (numB y.most ++ (numB y.floor)))) (y.topic) 30 (by have := h.topic; omega) (by omega) B (by simp [hB]) hBl k1 (by simp [hk1]); rw [← hk2] at h; exact h) ?_
  simp [wk, vk, ek, ok, buildD, fillD, thr, dR, dSub]
  refine hK _ ?_
  refine CW_reg fun K_ hK => ?_
  simp [wk, vk, ek, ok, buildD, fillD, thr, dR, dSub]
  refine CallW_use (by have h := rText108 (W := W) (textB y.name ++ (textB y.topic)) (numB y.lease ++ (numB y.most ++ (numB y.floor))) (y.want) 30 (by have := h.want; omega) (by omega) B (by simp [hB]) hBl k2 (by rw [hk2, hk1]; simp <;> omega); rw [← hk3] at h; exact h) ?_
  simp [wk, vk, ek, ok, buildD, fillD, thr, dR, dSub]
  refine hK _ ?_
  refine CW_reg fun K_ hK => ?_
  simp [wk, vk, ek, ok, buildD, fillD, thr, dR, dSub]
  refine CallW_use (by have h := rNum128 (W := W) (textB y.name ++ (textB y.topic ++ (textB y.want))) (numB y.most ++ (numB y.floor)) (y.lease) (by have := h.lease; omega) B (by simp [hB]) hBl k3 (by rw [hk3, hk2, hk1]; simp <;> omega); rw [← hk4] at h; exact h) ?_
  simp [wk, vk, ek, ok, buildD, fillD, thr, dR, dSub]
  refine hK _ ?_
  refine CW_reg fun K_ hK => ?_
  simp [wk, vk, ek, ok, buildD, fillD, thr, dR, dSub]
  refine CallW_use (by have h := rNum128 (W := W) (textB y.name ++ (textB y.topic ++ (textB y.want ++ (numB y.lease)))) (numB y.floor) (y.most) (by have := h.most; omega) B (by simp [hB]) hBl k4 (by rw [hk4, hk3, hk2, hk1]; simp <;> omega); rw [← hk5] at h; exact h) ?_
  simp [wk, vk, ek, ok, buildD, fillD, thr, dR, dSub]
  refine hK _ ?_
  refine CW_reg fun K_ hK => ?_
  simp [wk, vk, ek, ok, buildD, fillD, thr, dR, dSub]
  refine CallW_use (by have h := rNum128 (W := W) (textB y.name ++ (textB y.topic ++ (textB y.want ++ (numB y.lease ++ (numB y.most))))) ([]) (y.floor) (by have := h.floor; omega) B (by simp [hB]) hBl k5 (by rw [hk5, hk4, hk3, hk2, hk1]; simp <;> omega); rw [← hk6] at h; exact h) ?_
  simp [wk, vk, ek, ok, buildD, fillD, thr, dR, dSub]
  refine hK _ ?_
  refine CW_reg fun K_ hK => ?_
  simp [wk, vk, ek, ok, buildD, fillD, thr, dR, dSub]
  refine hK _ ?_
  refine CW_reg fun K_ hK => ?_
  simp [wk, vk, ek, ok, buildD, fillD, thr, dR, dSub]
  refine hK _ ?_
  refine CW_reg fun K_ hK => ?_
  simp [wk, vk, ek, ok, buildD, fillD, thr, dR, dSub]
  refine hK _ ?_
  refine CW_reg fun K_ hK => ?_
  simp [wk, vk, ek, ok, buildD, fillD, thr, dR, dSub]
  refine hK _ ?_
  refine CW_reg fun K_ hK => ?_
  simp [wk, vk, ek, ok, buildD, fillD, thr, dR, dSub]
  refine hK _ ?_
  refine CW_reg fun K_ hK => ?_
  simp [wk, vk, ek, ok, buildD, fillD, thr, dR, dSub]
  refine hK _ ?_
  refine CW_reg fun K_ hK => ?_
  simp [wk, vk, ek, ok, buildD, fillD, thr, dR, dSub]
  refine hK _ ?_
  refine CW_rt ?_
  refine ends_ret ?_
  simp [Tryz.results110, resD, resL, resD1, vk, wk, ok, buildD, fillD, ek, dSub, dR, dSub]
theorem sub73 (x y : Sub) (h : SubOK y) : Fc T W 73 [dSub x, dBytes (textB y.name ++ (textB y.topic ++ (textB y.want ++ (numB y.lease ++ (numB y.most ++ (numB y.floor ++ (textB y.note)))))))] (dSub { x with name := y.name, topic := y.topic, want := y.want, lease := y.lease, most := y.most, floor := y.floor, note := y.note }) := by
  obtain ⟨B, hB⟩ : ∃ B, B = textB y.name ++ (textB y.topic ++ (textB y.want ++ (numB y.lease ++ (numB y.most ++ (numB y.floor ++ (textB y.note)))))) := ⟨_, rfl⟩
  rw [← hB]
  have hq0 := textB_len y.name (by have := h.name; omega)
  have hq1 := textB_len y.topic (by have := h.topic; omega)
  have hq2 := textB_len y.want (by have := h.want; omega)
  have hq3 := numB_len8 (n := y.lease) (by have := h.lease; omega)
  have hq4 := numB_len8 (n := y.most) (by have := h.most; omega)
  have hq5 := numB_len8 (n := y.floor) (by have := h.floor; omega)
  have hq6 := textB_len y.note (by have := h.note; omega)
  have hBl : B.length ≤ 100000000 := by rw [hB]; (try simp); omega
  obtain ⟨k1, hk1⟩ : ∃ k, k = 0 + (textB y.name).length := ⟨_, rfl⟩
  obtain ⟨k2, hk2⟩ : ∃ k, k = k1 + (textB y.topic).length := ⟨_, rfl⟩
  obtain ⟨k3, hk3⟩ : ∃ k, k = k2 + (textB y.want).length := ⟨_, rfl⟩
  obtain ⟨k4, hk4⟩ : ∃ k, k = k3 + (numB y.lease).length := ⟨_, rfl⟩
  obtain ⟨k5, hk5⟩ : ∃ k, k = k4 + (numB y.most).length := ⟨_, rfl⟩
  obtain ⟨k6, hk6⟩ : ∃ k, k = k5 + (numB y.floor).length := ⟨_, rfl⟩
  obtain ⟨k7, hk7⟩ : ∃ k, k = k6 + (textB y.note).length := ⟨_, rfl⟩
  refine Fc_intro (thr := thr) hmix Tryz.func73 rfl (by kernel_rfl) (by simp [Tryz.ntmps73]) ?_
  refine CW_reg fun K_ hK => ?_
  simp [wk, vk, ek, ok, buildD, fillD, thr, dR, dSub]
  refine hK _ ?_
  refine CW_reg fun K_ hK => ?_
  simp [wk, vk, ek, ok, buildD, fillD, thr, dR, dSub]
  refine hK _ ?_
  refine CW_reg fun K_ hK => ?_
  simp [wk, vk, ek, ok, buildD, fillD, thr, dR, dSub]
  refine CallW_use (by have h := rText112 (W := W) ([]) (textB y.topic ++ (textB y.want ++ (numB y.lease ++ (numB y.most ++ (numB y.floor ++ (textB y.note)))))) (y.name) 30 (by have := h.name; omega) (by omega) B (by simp [hB]) hBl 0 rfl; rw [← hk1] at h; exact h) ?_
  simp [wk, vk, ek, ok, buildD, fillD, thr, dR, dSub]
  refine hK _ ?_
  refine CW_reg fun K_ hK => ?_
  simp [wk, vk, ek, ok, buildD, fillD, thr, dR, dSub]
  refine CallW_use (by have h := rText112 (W := W) (textB y.name) (textB y.want ++ (numB y.lease ++ (numB y.most ++ (numB y.floor ++ (textB y.note))))) (y.topic) 30 (by have := h.topic; omega) (by omega) B (by simp [hB]) hBl k1 (by simp [hk1]); rw [← hk2] at h; exact h) ?_
  simp [wk, vk, ek, ok, buildD, fillD, thr, dR, dSub]
  refine hK _ ?_
  refine CW_reg fun K_ hK => ?_
  simp [wk, vk, ek, ok, buildD, fillD, thr, dR, dSub]
  refine CallW_use (by have h := rText112 (W := W) (textB y.name ++ (textB y.topic)) (numB y.lease ++ (numB y.most ++ (numB y.floor ++ (textB y.note)))) (y.want) 30 (by have := h.want; omega) (by omega) B (by simp [hB]) hBl k2 (by rw [hk2, hk1]; simp <;> omega); rw [← hk3] at h; exact h) ?_
  simp [wk, vk, ek, ok, buildD, fillD, thr, dR, dSub]
  refine hK _ ?_
  refine CW_reg fun K_ hK => ?_
  simp [wk, vk, ek, ok, buildD, fillD, thr, dR, dSub]
  refine CallW_use (by have h := rNum111 (W := W) (textB y.name ++ (textB y.topic ++ (textB y.want))) (numB y.most ++ (numB y.floor ++ (textB y.note))) (y.lease) (by have := h.lease; omega) B (by simp [hB]) hBl k3 (by rw [hk3, hk2, hk1]; simp <;> omega); rw [← hk4] at h; exact h) ?_
  simp [wk, vk, ek, ok, buildD, fillD, thr, dR, dSub]
  refine hK _ ?_
  refine CW_reg fun K_ hK => ?_
  simp [wk, vk, ek, ok, buildD, fillD, thr, dR, dSub]
  refine CallW_use (by have h := rNum111 (W := W) (textB y.name ++ (textB y.topic ++ (textB y.want ++ (numB y.lease)))) (numB y.floor ++ (textB y.note)) (y.most) (by have := h.most; omega) B (by simp [hB]) hBl k4 (by rw [hk4, hk3, hk2, hk1]; simp <;> omega); rw [← hk5] at h; exact h) ?_
  simp [wk, vk, ek, ok, buildD, fillD, thr, dR, dSub]
  refine hK _ ?_
  refine CW_reg fun K_ hK => ?_
  simp [wk, vk, ek, ok, buildD, fillD, thr, dR, dSub]
  refine CallW_use (by have h := rNum111 (W := W) (textB y.name ++ (textB y.topic ++ (textB y.want ++ (numB y.lease ++ (numB y.most))))) (textB y.note) (y.floor) (by have := h.floor; omega) B (by simp [hB]) hBl k5 (by rw [hk5, hk4, hk3, hk2, hk1]; simp <;> omega); rw [← hk6] at h; exact h) ?_
  simp [wk, vk, ek, ok, buildD, fillD, thr, dR, dSub]
  refine hK _ ?_
  refine CW_reg fun K_ hK => ?_
  simp [wk, vk, ek, ok, buildD, fillD, thr, dR, dSub]
  refine CallW_use (by have h := rText112 (W := W) (textB y.name ++ (textB y.topic ++ (textB y.want ++ (numB y.lease ++ (numB y.most ++ (numB y.floor)))))) ([]) (y.note) 30 (by have := h.note; omega) (by omega) B (by simp [hB]) hBl k6 (by rw [hk6, hk5, hk4, hk3, hk2, hk1]; simp <;> omega); rw [← hk7] at h; exact h) ?_
  simp [wk, vk, ek, ok, buildD, fillD, thr, dR, dSub]
  refine hK _ ?_
  refine CW_reg fun K_ hK => ?_
  simp [wk, vk, ek, ok, buildD, fillD, thr, dR, dSub]
  refine hK _ ?_
  refine CW_reg fun K_ hK => ?_
  simp [wk, vk, ek, ok, buildD, fillD, thr, dR, dSub]
  refine hK _ ?_
  refine CW_reg fun K_ hK => ?_
  simp [wk, vk, ek, ok, buildD, fillD, thr, dR, dSub]
  refine hK _ ?_
  refine CW_reg fun K_ hK => ?_
  simp [wk, vk, ek, ok, buildD, fillD, thr, dR, dSub]
  refine hK _ ?_
  refine CW_reg fun K_ hK => ?_
  simp [wk, vk, ek, ok, buildD, fillD, thr, dR, dSub]
  refine hK _ ?_
  refine CW_reg fun K_ hK => ?_
  simp [wk, vk, ek, ok, buildD, fillD, thr, dR, dSub]
  refine hK _ ?_
  refine CW_reg fun K_ hK => ?_
  simp [wk, vk, ek, ok, buildD, fillD, thr, dR, dSub]
  refine hK _ ?_
  refine CW_reg fun K_ hK => ?_
  simp [wk, vk, ek, ok, buildD, fillD, thr, dR, dSub]
  refine hK _ ?_
  refine CW_rt ?_
  refine ends_ret ?_
  simp [Tryz.results73, resD, resL, resD1, vk, wk, ok, buildD, fillD, ek, dSub, dR, dSub]
end Go.Proofs.YtobamidecbfgpaaGreatDoor
