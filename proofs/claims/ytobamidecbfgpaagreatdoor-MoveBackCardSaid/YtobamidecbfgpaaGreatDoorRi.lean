/- Rising keys, same rows, and what a row tells of messages, over the shadow. No condition. -/
import Derived.Test.YtobamidecbfgpaaGreatDoorMe
namespace Go.Proofs.YtobamidecbfgpaaGreatDoor
open Go Go.Sh Go.RowKit
set_option linter.unusedVariables false
set_option linter.unusedSimpArgs false
set_option maxRecDepth 10000
variable {W : World}
theorem rising68 (l : List Row) (hl : l.length ≤ 100000) (hk : ∀ i (h : i + 1 < l.length), Op.bytesLess l[i + 1].key l[i].key = false ∧ (l[i + 1].key == l[i].key) = false) : Fc T W 68 [dRows l] (.b true) := by
  refine Fc_intro (thr := thr) hmix Tryz.func68 rfl (by kernel_rfl) (by simp [Tryz.ntmps68]) ?_
  refine CW_reg fun K_ hK => ?_
  simp [wk, vk, ek, ok, buildD, fillD, thr]
  refine hK _ ?_
  refine CW_seq1 ?_
  refine CW_reg fun K_ hK => ?_
  simp [wk, vk, ek, ok, buildD, fillD, thr]
  refine hK _ ?_
  refine CW_for (fun j τ => ∃ i : Nat, j = l.length - i ∧ τ.fr 0 = dRows l ∧ τ.fr 3 = .i .i64 (i + 1 : Nat)) (l.length) ?_ ?_
  · exact ⟨0, rfl, by simp [upd], by simp [upd]⟩
  · rintro j ⟨fr, bx, tp, c⟩ ⟨i, rfl, f0, f3⟩ K0 hN0 hX0 hR0 hJ0
    simp only at f0 f3
    obtain ⟨i1, hi1⟩ : ∃ k, k = i + 1 := ⟨_, rfl⟩
    rw [← hi1] at f3
    refine CW_seq1 ?_
    refine CW_reg fun K_ hK => ?_
    simp [wk, vk, ek, ok, buildD, fillD, thr, f0, f3]
    refine hK _ ?_
    refine CW_cond rfl (fun hct7 => ?_) (fun hct7 => ?_)
    · have hil : i1 < l.length := by simpa [wk, vk, ek, ok, f0, f3] using hct7
      have e1 : IntKind.i64.wrap ((i1 : Int) - 1) = (i : Int) := by rw [w64 (by omega) (by omega)]; omega
      have hi2 : i < l.length := by omega
      obtain ⟨k1, k2⟩ := hk i (by omega)
      have k1' : Op.bytesLess (l[i1]'hil).key l[i].key = false := by simpa only [hi1] using k1
      have k2' : ((l[i1]'hil).key == l[i].key) = false := by simpa only [hi1] using k2
      have k3' : ¬ (l[i1]'hil).key = l[i].key := by simpa using k2'
      refine CW_sk ?_
      refine CW_seq1 ?_
      refine CW_blk fun K1 hn1 hx1 hr1 hj1 => ?_
      refine CW_reg fun K_ hK => ?_
      simp [wk, vk, ek, ok, buildD, fillD, thr, f0, f3, hil, e1, hi2, k1', k2', k3', dRow]
      refine hK _ ?_
      refine CW_no rfl ?_
      refine CW_sk ?_
      refine hn1 _ ?_
      refine CW_reg1 fun K_ hK => ?_
      simp [wk, vk, ek, ok, buildD, fillD, thr, f0, f3, hil, e1, hi2, k1', k2', k3', dRow]
      refine hK _ ?_
      refine hN0 (l.length - (i + 1)) _ (by omega) ⟨i + 1, rfl, by simp [upd, f0], ?_⟩
      simp [upd]; rw [w64 (by omega) (by omega)]; omega
    · refine CW_ex ?_
      refine hX0 _ ?_
      refine CW_reg fun K_ hK => ?_
      simp [wk, vk, ek, ok, buildD, fillD, thr]
      refine hK _ ?_
      refine CW_rt ?_
      refine ends_ret ?_
      simp [Tryz.results68, resD, resL, resD1, vk, wk, ok, buildD, fillD, ek]
theorem rising70 (l : List Row) (hl : l.length ≤ 100000) (hk : ∀ i (h : i + 1 < l.length), Op.bytesLess l[i + 1].key l[i].key = false ∧ (l[i + 1].key == l[i].key) = false) : Fc T W 70 [dRows l] (.b true) := by
  refine Fc_intro (thr := thr) hmix Tryz.func70 rfl (by kernel_rfl) (by simp [Tryz.ntmps70]) ?_
  refine CW_reg fun K_ hK => ?_
  simp [wk, vk, ek, ok, buildD, fillD, thr]
  refine hK _ ?_
  refine CW_seq1 ?_
  refine CW_reg fun K_ hK => ?_
  simp [wk, vk, ek, ok, buildD, fillD, thr]
  refine hK _ ?_
  refine CW_for (fun j τ => ∃ i : Nat, j = l.length - i ∧ τ.fr 0 = dRows l ∧ τ.fr 3 = .i .i64 (i + 1 : Nat)) (l.length) ?_ ?_
  · exact ⟨0, rfl, by simp [upd], by simp [upd]⟩
  · rintro j ⟨fr, bx, tp, c⟩ ⟨i, rfl, f0, f3⟩ K0 hN0 hX0 hR0 hJ0
    simp only at f0 f3
    obtain ⟨i1, hi1⟩ : ∃ k, k = i + 1 := ⟨_, rfl⟩
    rw [← hi1] at f3
    refine CW_seq1 ?_
    refine CW_reg fun K_ hK => ?_
    simp [wk, vk, ek, ok, buildD, fillD, thr, f0, f3]
    refine hK _ ?_
    refine CW_cond rfl (fun hct7 => ?_) (fun hct7 => ?_)
    · have hil : i1 < l.length := by simpa [wk, vk, ek, ok, f0, f3] using hct7
      have e1 : IntKind.i64.wrap ((i1 : Int) - 1) = (i : Int) := by rw [w64 (by omega) (by omega)]; omega
      have hi2 : i < l.length := by omega
      obtain ⟨k1, k2⟩ := hk i (by omega)
      have k1' : Op.bytesLess (l[i1]'hil).key l[i].key = false := by simpa only [hi1] using k1
      have k2' : ((l[i1]'hil).key == l[i].key) = false := by simpa only [hi1] using k2
      have k3' : ¬ (l[i1]'hil).key = l[i].key := by simpa using k2'
      refine CW_sk ?_
      refine CW_seq1 ?_
      refine CW_blk fun K1 hn1 hx1 hr1 hj1 => ?_
      refine CW_reg fun K_ hK => ?_
      simp [wk, vk, ek, ok, buildD, fillD, thr, f0, f3, hil, e1, hi2, k1', k2', k3', dRow]
      refine hK _ ?_
      refine CW_no rfl ?_
      refine CW_sk ?_
      refine hn1 _ ?_
      refine CW_reg1 fun K_ hK => ?_
      simp [wk, vk, ek, ok, buildD, fillD, thr, f0, f3, hil, e1, hi2, k1', k2', k3', dRow]
      refine hK _ ?_
      refine hN0 (l.length - (i + 1)) _ (by omega) ⟨i + 1, rfl, by simp [upd, f0], ?_⟩
      simp [upd]; rw [w64 (by omega) (by omega)]; omega
    · refine CW_ex ?_
      refine hX0 _ ?_
      refine CW_reg fun K_ hK => ?_
      simp [wk, vk, ek, ok, buildD, fillD, thr]
      refine hK _ ?_
      refine CW_rt ?_
      refine ends_ret ?_
      simp [Tryz.results70, resD, resL, resD1, vk, wk, ok, buildD, fillD, ek]
theorem rising74 (l : List Row) (hl : l.length ≤ 100000) (hk : ∀ i (h : i + 1 < l.length), Op.bytesLess l[i + 1].key l[i].key = false ∧ (l[i + 1].key == l[i].key) = false) : Fc T W 74 [dRows l] (.b true) := by
  refine Fc_intro (thr := thr) hmix Tryz.func74 rfl (by kernel_rfl) (by simp [Tryz.ntmps74]) ?_
  refine CW_reg fun K_ hK => ?_
  simp [wk, vk, ek, ok, buildD, fillD, thr]
  refine hK _ ?_
  refine CW_seq1 ?_
  refine CW_reg fun K_ hK => ?_
  simp [wk, vk, ek, ok, buildD, fillD, thr]
  refine hK _ ?_
  refine CW_for (fun j τ => ∃ i : Nat, j = l.length - i ∧ τ.fr 0 = dRows l ∧ τ.fr 3 = .i .i64 (i + 1 : Nat)) (l.length) ?_ ?_
  · exact ⟨0, rfl, by simp [upd], by simp [upd]⟩
  · rintro j ⟨fr, bx, tp, c⟩ ⟨i, rfl, f0, f3⟩ K0 hN0 hX0 hR0 hJ0
    simp only at f0 f3
    obtain ⟨i1, hi1⟩ : ∃ k, k = i + 1 := ⟨_, rfl⟩
    rw [← hi1] at f3
    refine CW_seq1 ?_
    refine CW_reg fun K_ hK => ?_
    simp [wk, vk, ek, ok, buildD, fillD, thr, f0, f3]
    refine hK _ ?_
    refine CW_cond rfl (fun hct7 => ?_) (fun hct7 => ?_)
    · have hil : i1 < l.length := by simpa [wk, vk, ek, ok, f0, f3] using hct7
      have e1 : IntKind.i64.wrap ((i1 : Int) - 1) = (i : Int) := by rw [w64 (by omega) (by omega)]; omega
      have hi2 : i < l.length := by omega
      obtain ⟨k1, k2⟩ := hk i (by omega)
      have k1' : Op.bytesLess (l[i1]'hil).key l[i].key = false := by simpa only [hi1] using k1
      have k2' : ((l[i1]'hil).key == l[i].key) = false := by simpa only [hi1] using k2
      have k3' : ¬ (l[i1]'hil).key = l[i].key := by simpa using k2'
      refine CW_sk ?_
      refine CW_seq1 ?_
      refine CW_blk fun K1 hn1 hx1 hr1 hj1 => ?_
      refine CW_reg fun K_ hK => ?_
      simp [wk, vk, ek, ok, buildD, fillD, thr, f0, f3, hil, e1, hi2, k1', k2', k3', dRow]
      refine hK _ ?_
      refine CW_no rfl ?_
      refine CW_sk ?_
      refine hn1 _ ?_
      refine CW_reg1 fun K_ hK => ?_
      simp [wk, vk, ek, ok, buildD, fillD, thr, f0, f3, hil, e1, hi2, k1', k2', k3', dRow]
      refine hK _ ?_
      refine hN0 (l.length - (i + 1)) _ (by omega) ⟨i + 1, rfl, by simp [upd, f0], ?_⟩
      simp [upd]; rw [w64 (by omega) (by omega)]; omega
    · refine CW_ex ?_
      refine hX0 _ ?_
      refine CW_reg fun K_ hK => ?_
      simp [wk, vk, ek, ok, buildD, fillD, thr]
      refine hK _ ?_
      refine CW_rt ?_
      refine ends_ret ?_
      simp [Tryz.results74, resD, resL, resD1, vk, wk, ok, buildD, fillD, ek]
theorem same32 (l : List Row) (hl : l.length ≤ 100000) : Fc T W 32 [dRows l, dRows l] (.b true) := by
  refine Fc_intro (thr := thr) hmix Tryz.func32 rfl (by kernel_rfl) (by simp [Tryz.ntmps32]) ?_
  refine CW_reg fun K_ hK => ?_
  simp [wk, vk, ek, ok, buildD, fillD, thr]
  refine hK _ ?_
  refine CW_seq1 ?_
  refine CW_reg fun K_ hK => ?_
  simp [wk, vk, ek, ok, buildD, fillD, thr]
  refine hK _ ?_
  refine CW_no rfl ?_
  refine CW_sk ?_
  refine CW_seq1 ?_
  refine CW_reg fun K_ hK => ?_
  simp [wk, vk, ek, ok, buildD, fillD, thr]
  refine hK _ ?_
  refine CW_for (fun j τ => ∃ i : Nat, j = l.length - i ∧ τ.fr 0 = dRows l ∧ τ.fr 1 = dRows l ∧ τ.fr 5 = .i .i64 i) (l.length) ?_ ?_
  · exact ⟨0, rfl, by simp [upd], by simp [upd], by simp [upd]⟩
  · rintro j ⟨fr, bx, tp, c⟩ ⟨i, rfl, f0, f1, f5⟩ K0 hN0 hX0 hR0 hJ0
    simp only at f0 f1 f5
    refine CW_seq1 ?_
    refine CW_reg fun K_ hK => ?_
    simp [wk, vk, ek, ok, buildD, fillD, thr, f0, f1, f5]
    refine hK _ ?_
    refine CW_cond rfl (fun hct14 => ?_) (fun hct14 => ?_)
    · have hil : i < l.length := by simpa [wk, vk, ek, ok, f0, f5] using hct14
      have hcv : convD T 22 9 (dBytes l[i].val) = some (.s l[i].val) := by
        rw [dBytes, cv22_DO, toBs_bytes, Option.map_some, unB_bytes]
      refine CW_sk ?_
      refine CW_seq1 ?_
      refine CW_blk fun K1 hn1 hx1 hr1 hj1 => ?_
      refine CW_reg fun K_ hK => ?_
      simp [wk, vk, ek, ok, buildD, fillD, thr, f0, f1, f5, hil, hcv, dRow]
      refine hK _ ?_
      refine CW_no rfl ?_
      refine CW_sk ?_
      refine hn1 _ ?_
      refine CW_reg1 fun K_ hK => ?_
      simp [wk, vk, ek, ok, buildD, fillD, thr, f0, f1, f5, hil, hcv, dRow]
      refine hK _ ?_
      refine hN0 (l.length - (i + 1)) _ (by omega) ⟨i + 1, rfl, by simp [upd, f0], by simp [upd, f1], ?_⟩
      simp [upd]; rw [w64 (by omega) (by omega)]
    · refine CW_ex ?_
      refine hX0 _ ?_
      refine CW_reg fun K_ hK => ?_
      simp [wk, vk, ek, ok, buildD, fillD, thr]
      refine hK _ ?_
      refine CW_rt ?_
      refine ends_ret ?_
      simp [Tryz.results32, resD, resL, resD1, vk, wk, ok, buildD, fillD, ek]
def moreF (seq : Nat) (y m : Msg) : Msg := if m.seq = seq then { m with prio := y.prio, why := y.why } else m
def msgF (seq : Nat) (y m : Msg) : Msg := if m.seq = seq then { m with attr := y.attr, tries := y.tries, til := y.til, dead := y.dead } else m
theorem more105 (l : List Msg) (hl : l.length ≤ 1000) (seq : Nat) (y : Msg) (h : MsgOK y) : Fc T W 105 [dMsgs l, .i .i64 seq, dBytes (numB y.prio ++ (numB (deathN y)))] (dMsgs (l.map (moreF seq y))) := by
  obtain ⟨B, hB⟩ : ∃ B, B = numB y.prio ++ (numB (deathN y)) := ⟨_, rfl⟩
  rw [← hB]
  have hq0 := numB_len8 (n := y.prio) (by have := h.prio; omega)
  have hq1 := numB_len8 (n := (deathN y)) (by have := deathN_le y; omega)
  have hBl : B.length ≤ 100000000 := by rw [hB]; (try simp); omega
  obtain ⟨k1, hk1⟩ : ∃ k, k = 0 + (numB y.prio).length := ⟨_, rfl⟩
  obtain ⟨k2, hk2⟩ : ∃ k, k = k1 + (numB (deathN y)).length := ⟨_, rfl⟩
  have e2 := h.why.symm
  have e4 : ¬ 2 < deathN y := by have := deathN_le y; omega
  have e5' : (if (2 : Int) < ((deathN y : Nat) : Int) then (2 : Int) else ((deathN y : Nat) : Int)) = ((deathN y : Nat) : Int) := if_neg (by omega)
  have e5 : (if 2 < deathN y then (2 : Int) else ((deathN y : Nat) : Int)) = ((deathN y : Nat) : Int) := if_neg e4
  refine Fc_intro (thr := thr) hmix Tryz.func105 rfl (by kernel_rfl) (by simp [Tryz.ntmps105]) ?_
  refine CW_reg fun K_ hK => ?_
  simp [wk, vk, ek, ok, buildD, fillD, thr, dR, e2, e5, e5']
  refine hK _ ?_
  refine CW_reg fun K_ hK => ?_
  simp [wk, vk, ek, ok, buildD, fillD, thr, dR, e2, e5, e5']
  refine hK _ ?_
  refine CW_reg fun K_ hK => ?_
  simp [wk, vk, ek, ok, buildD, fillD, thr, dR, e2, e5, e5']
  refine hK _ ?_
  refine CW_reg fun K_ hK => ?_
  simp [wk, vk, ek, ok, buildD, fillD, thr, dR, e2, e5, e5']
  refine CallW_use (by have h := rNum126 (W := W) ([]) (numB (deathN y)) (y.prio) (by have := h.prio; omega) B (by simp [hB]) hBl 0 rfl; rw [← hk1] at h; exact h) ?_
  simp [wk, vk, ek, ok, buildD, fillD, thr, dR, e2, e5, e5']
  refine hK _ ?_
  refine CW_reg fun K_ hK => ?_
  simp [wk, vk, ek, ok, buildD, fillD, thr, dR, e2, e5, e5']
  refine CallW_use (by have h := rNum126 (W := W) (numB y.prio) ([]) ((deathN y)) (by have := deathN_le y; omega) B (by simp [hB]) hBl k1 (by simp [hk1]); rw [← hk2] at h; exact h) ?_
  simp [wk, vk, ek, ok, buildD, fillD, thr, dR, e2, e5, e5']
  refine hK _ ?_
  refine CW_seq1 ?_
  refine CW_reg fun K_ hK => ?_
  simp [wk, vk, ek, ok, buildD, fillD, thr, dR, e2, e5, e5']
  refine hK _ ?_
  refine CW_for (fun j τ => ∃ i g : Nat, j = l.length - i ∧ τ.fr 0 = dMsgs l ∧ τ.fr 1 = .i .i64 seq ∧ τ.fr 10 = .i .i64 y.prio ∧ τ.fr 12 = .i .i64 (deathN y) ∧ τ.fr 7 = oM g ((l.map (moreF seq y)).take i) ∧ ((l.map (moreF seq y)).take i ≠ [] → τ.tp 42 = some (g, ((l.map (moreF seq y)).take i).length)) ∧ τ.fr 13 = .i .i64 i) (l.length) ?_ ?_
  · exact ⟨0, 0, rfl, by simp [upd], by simp [upd], by simp [upd], by simp [upd], by simp [upd]; rfl, by simp, by simp [upd]⟩
  · rintro j ⟨fr, bx, tp, c⟩ ⟨i, g, rfl, f0, f1, f10, f12, f7, htp, f13⟩ K0 hN0 hX0 hR0 hJ0
    simp only at f0 f1 f10 f12 f7 htp f13
    obtain ⟨tk, htk⟩ : ∃ tk, tk = (l.map (moreF seq y)).take i := ⟨_, rfl⟩
    rw [← htk] at f7 htp
    have htl : tk.length ≤ 1000 := by rw [htk]; simp; omega
    refine CW_seq1 ?_
    refine CW_reg fun K_ hK => ?_
    simp [wk, vk, ek, ok, buildD, fillD, thr, f0, f1, f10, f12, f7, f13]
    refine hK _ ?_
    refine CW_cond rfl (fun hct30 => ?_) (fun hct30 => ?_)
    · have hil : i < l.length := by simpa [wk, vk, ek, ok, f0, f13] using hct30
      refine CW_sk ?_
      refine CW_seq1 ?_
      refine CW_blk fun K1 hn1 hx1 hr1 hj1 => ?_
      refine CW_reg fun K_ hK => ?_
      simp [wk, vk, ek, ok, buildD, fillD, thr, f0, f1, f10, f12, f7, f13, hil, dMsg, e5, e5', e2]
      refine hK _ ?_
      refine CW_seq1 ?_
      refine CW_reg fun K_ hK => ?_
      simp [wk, vk, ek, ok, buildD, fillD, thr, f0, f1, f10, f12, f7, f13, hil, dMsg, e5, e5', e2]
      refine hK _ ?_
      refine CW_cond rfl (fun hct40 => ?_) (fun hct40 => ?_)
      · have hq : (l[i].seq : Int) = (seq : Int) := by simpa [wk, vk, ek, ok, dMsg, f1] using hct40
        have hs : l[i].seq = seq := by omega
        have hx : moreF seq y l[i] = { l[i] with prio := y.prio, why := y.why } := if_pos hs
        refine CW_reg fun K_ hK => ?_
        simp [wk, vk, ek, ok, buildD, fillD, thr, f0, f1, f10, f12, f7, f13, hil, dMsg, e5, e5', e2]
        refine hK _ ?_
        refine CW_reg1 fun K_ hK => ?_
        simp [wk, vk, ek, ok, buildD, fillD, thr, f0, f1, f10, f12, f7, f13, hil, dMsg, e5, e5', e2]
        refine CallW_use (why127 (deathN y) (deathN_le y)) ?_
        simp [wk, vk, ek, ok, buildD, fillD, thr, f0, f1, f10, f12, f7, f13, hil, dMsg, e5, e5', e2]
        refine hK _ ?_
        refine CW_reg1 fun K_ hK => ?_
        simp [wk, vk, ek, ok, buildD, fillD, thr, f0, f1, f10, f12, f7, f13, hil, dMsg, e5, e5', e2]
        refine AppW_use (app_M tk { l[i] with prio := y.prio, why := y.why } g htp (by omega)) ?_
        simp [wk, vk, ek, ok, buildD, fillD, thr, f0, f1, f10, f12, f7, f13, hil, dMsg, e5, e5', e2]
        refine hK _ ?_
        refine hn1 _ ?_
        refine CW_reg1 fun K_ hK => ?_
        simp [wk, vk, ek, ok, buildD, fillD, thr, f0, f1, f10, f12, f7, f13, hil, dMsg, e5, e5', e2]
        refine hK _ ?_
        have ht : (l.map (moreF seq y)).take (i + 1) = (l.map (moreF seq y)).take i ++ [moreF seq y l[i]] := by rw [List.take_succ_eq_append_getElem (by simpa using hil)]; simp
        refine hN0 (l.length - (i + 1)) _ (by omega) ⟨i + 1, _, rfl, by simp [upd, f0], by simp [upd, f1], by simp [upd, f10], by simp [upd, f12], by rw [ht, hx, ← htk]; rfl, fun _ => by rw [ht, ← htk]; simp [upd], ?_⟩
        simp [upd]; rw [w64 (by omega) (by omega)]
      · have hq : ¬ (l[i].seq : Int) = (seq : Int) := by simpa [wk, vk, ek, ok, dMsg, f1] using hct40
        have hs : ¬ l[i].seq = seq := by omega
        have hx : moreF seq y l[i] = l[i] := if_neg hs
        refine CW_sk ?_
        refine CW_reg1 fun K_ hK => ?_
        simp [wk, vk, ek, ok, buildD, fillD, thr, f0, f1, f10, f12, f7, f13, hil, dMsg, e5, e5', e2]
        refine AppW_use (app_M tk l[i] g htp (by omega)) ?_
        simp [wk, vk, ek, ok, buildD, fillD, thr, f0, f1, f10, f12, f7, f13, hil, dMsg, e5, e5', e2]
        refine hK _ ?_
        refine hn1 _ ?_
        refine CW_reg1 fun K_ hK => ?_
        simp [wk, vk, ek, ok, buildD, fillD, thr, f0, f1, f10, f12, f7, f13, hil, dMsg, e5, e5', e2]
        refine hK _ ?_
        have ht : (l.map (moreF seq y)).take (i + 1) = (l.map (moreF seq y)).take i ++ [moreF seq y l[i]] := by rw [List.take_succ_eq_append_getElem (by simpa using hil)]; simp
        refine hN0 (l.length - (i + 1)) _ (by omega) ⟨i + 1, _, rfl, by simp [upd, f0], by simp [upd, f1], by simp [upd, f10], by simp [upd, f12], by rw [ht, hx, ← htk]; rfl, fun _ => by rw [ht, ← htk]; simp [upd], ?_⟩
        simp [upd]; rw [w64 (by omega) (by omega)]
    · have hil : ¬ i < l.length := by simpa [wk, vk, ek, ok, f0, f13] using hct30
      rw [List.take_of_length_le (by simp; omega)] at htk
      rw [htk] at f7
      refine CW_ex ?_
      refine hX0 _ ?_
      refine CW_reg fun K_ hK => ?_
      simp [wk, vk, ek, ok, buildD, fillD, thr, f7]
      refine hK _ ?_
      refine CW_rt ?_
      refine ends_ret ?_
      simp [Tryz.results105, resD, resL, resD1, vk, wk, ok, buildD, fillD, ek, f7]
theorem more109x (l : List Msg) (hl : l.length ≤ 1000) (seq : Nat) (y : Msg) (h : MsgOK y) : Fc T W 109 [dMsgs l, .i .u8 120, .i .i64 seq, dBytes (numB y.prio ++ (numB (deathN y)))] (dMsgs (l.map (moreF seq y))) := by
  obtain ⟨B, hB⟩ : ∃ B, B = numB y.prio ++ (numB (deathN y)) := ⟨_, rfl⟩
  rw [← hB]
  have hq0 := numB_len8 (n := y.prio) (by have := h.prio; omega)
  have hq1 := numB_len8 (n := (deathN y)) (by have := deathN_le y; omega)
  have hBl : B.length ≤ 100000000 := by rw [hB]; (try simp); omega
  obtain ⟨k1, hk1⟩ : ∃ k, k = 0 + (numB y.prio).length := ⟨_, rfl⟩
  obtain ⟨k2, hk2⟩ : ∃ k, k = k1 + (numB (deathN y)).length := ⟨_, rfl⟩
  have e2 := h.why.symm
  have e4 : ¬ 2 < deathN y := by have := deathN_le y; omega
  have e5' : (if (2 : Int) < ((deathN y : Nat) : Int) then (2 : Int) else ((deathN y : Nat) : Int)) = ((deathN y : Nat) : Int) := if_neg (by omega)
  have e5 : (if 2 < deathN y then (2 : Int) else ((deathN y : Nat) : Int)) = ((deathN y : Nat) : Int) := if_neg e4
  have e6 : (((isDead y : Nat) : Int) == 1) = y.dead := by unfold isDead; cases y.dead <;> rfl
  refine Fc_intro (thr := thr) hmix Tryz.func109 rfl (by kernel_rfl) (by simp [Tryz.ntmps109]) ?_
  refine CW_reg fun K_ hK => ?_
  simp [wk, vk, ek, ok, buildD, fillD, thr, dR]
  refine hK _ ?_
  refine CW_reg fun K_ hK => ?_
  simp [wk, vk, ek, ok, buildD, fillD, thr, dR]
  refine hK _ ?_
  refine CW_seq1 ?_
  refine CW_reg fun K_ hK => ?_
  simp [wk, vk, ek, ok, buildD, fillD, thr, dR]
  refine hK _ ?_
  refine CW_for (fun j τ => ∃ i g : Nat, j = l.length - i ∧ τ.fr 0 = dMsgs l ∧ τ.fr 1 = .i .u8 120 ∧ τ.fr 2 = .i .i64 seq ∧ τ.fr 3 = dBytes B ∧ τ.fr 9 = oM g ((l.map (moreF seq y)).take i) ∧ ((l.map (moreF seq y)).take i ≠ [] → τ.tp 42 = some (g, ((l.map (moreF seq y)).take i).length)) ∧ τ.fr 10 = .i .i64 i) (l.length) ?_ ?_
  · exact ⟨0, 0, rfl, by simp [upd], by simp [upd], by simp [upd], by simp [upd], by simp [upd]; rfl, by simp, by simp [upd]⟩
  · rintro j ⟨fr, bx, tp, c⟩ ⟨i, g, rfl, f0, f1, f2, f3, f9, htp, f10⟩ K0 hN0 hX0 hR0 hJ0
    simp only at f0 f1 f2 f3 f9 htp f10
    obtain ⟨tk, htk⟩ : ∃ tk, tk = (l.map (moreF seq y)).take i := ⟨_, rfl⟩
    rw [← htk] at f9 htp
    have htl : tk.length ≤ 1000 := by rw [htk]; simp; omega
    refine CW_seq1 ?_
    refine CW_reg fun K_ hK => ?_
    simp [wk, vk, ek, ok, buildD, fillD, thr, f0, f1, f2, f3, f9, f10]
    refine hK _ ?_
    refine CW_cond rfl (fun hct28 => ?_) (fun hct28 => ?_)
    · have hil : i < l.length := by simpa [wk, vk, ek, ok, f0, f10] using hct28
      refine CW_sk ?_
      refine CW_seq1 ?_
      refine CW_blk fun K1 hn1 hx1 hr1 hj1 => ?_
      refine CW_reg fun K_ hK => ?_
      simp [wk, vk, ek, ok, buildD, fillD, thr, f0, f1, f2, f3, f9, f10, hil, dMsg, dR, e5, e5', e2, e6]
      refine hK _ ?_
      refine CW_reg fun K_ hK => ?_
      simp [wk, vk, ek, ok, buildD, fillD, thr, f0, f1, f2, f3, f9, f10, hil, dMsg, dR, e5, e5', e2, e6]
      refine hK _ ?_
      refine CW_seq1 ?_
      by_cases hs : l[i].seq = seq
      · have hq : ((l[i].seq : Int) == (seq : Int)) = true := by simp [hs]
        have hx : moreF seq y l[i] = { l[i] with prio := y.prio, why := y.why } := if_pos hs
        refine CW_reg fun K_ hK => ?_
        simp [wk, vk, ek, ok, buildD, fillD, thr, f0, f1, f2, f3, f9, f10, hil, dMsg, dR, e5, e5', e2, e6, hq]
        refine hK _ ?_
        refine CW_yes rfl ?_
        refine CW_reg fun K_ hK => ?_
        simp [wk, vk, ek, ok, buildD, fillD, thr, f0, f1, f2, f3, f9, f10, hil, dMsg, dR, e5, e5', e2, e6, hq]
        refine CallW_use (by have h := rNum128 (W := W) ([]) (numB (deathN y)) (y.prio) (by have := h.prio; omega) B (by simp [hB]) hBl 0 rfl; rw [← hk1] at h; exact h) ?_
        simp [wk, vk, ek, ok, buildD, fillD, thr, f0, f1, f2, f3, f9, f10, hil, dMsg, dR, e5, e5', e2, e6, hq]
        refine hK _ ?_
        refine CW_reg fun K_ hK => ?_
        simp [wk, vk, ek, ok, buildD, fillD, thr, f0, f1, f2, f3, f9, f10, hil, dMsg, dR, e5, e5', e2, e6, hq]
        refine CallW_use (by have h := rNum128 (W := W) (numB y.prio) ([]) ((deathN y)) (by have := deathN_le y; omega) B (by simp [hB]) hBl k1 (by simp [hk1]); rw [← hk2] at h; exact h) ?_
        simp [wk, vk, ek, ok, buildD, fillD, thr, f0, f1, f2, f3, f9, f10, hil, dMsg, dR, e5, e5', e2, e6, hq]
        refine hK _ ?_
        refine CW_reg fun K_ hK => ?_
        simp [wk, vk, ek, ok, buildD, fillD, thr, f0, f1, f2, f3, f9, f10, hil, dMsg, dR, e5, e5', e2, e6, hq]
        refine hK _ ?_
        refine CW_reg1 fun K_ hK => ?_
        simp [wk, vk, ek, ok, buildD, fillD, thr, f0, f1, f2, f3, f9, f10, hil, dMsg, dR, e5, e5', e2, e6, hq]
        refine CallW_use (why129 (deathN y) (deathN_le y)) ?_
        simp [wk, vk, ek, ok, buildD, fillD, thr, f0, f1, f2, f3, f9, f10, hil, dMsg, dR, e5, e5', e2, e6, hq]
        refine hK _ ?_
        refine CW_seq1 ?_
        refine CW_reg fun K_ hK => ?_
        simp [wk, vk, ek, ok, buildD, fillD, thr, f0, f1, f2, f3, f9, f10, hil, dMsg, dR, e5, e5', e2, e6, hq]
        refine hK _ ?_
        refine CW_no rfl ?_
        refine CW_sk ?_
        refine CW_reg1 fun K_ hK => ?_
        simp [wk, vk, ek, ok, buildD, fillD, thr, f0, f1, f2, f3, f9, f10, hil, dMsg, dR, e5, e5', e2, e6, hq]
        refine AppW_use (app_M tk { l[i] with prio := y.prio, why := y.why } g htp (by omega)) ?_
        simp [wk, vk, ek, ok, buildD, fillD, thr, f0, f1, f2, f3, f9, f10, hil, dMsg, dR, e5, e5', e2, e6, hq]
        refine hK _ ?_
        refine hn1 _ ?_
        refine CW_reg1 fun K_ hK => ?_
        simp [wk, vk, ek, ok, buildD, fillD, thr, f0, f1, f2, f3, f9, f10, hil, dMsg, dR, e5, e5', e2, e6, hq]
        refine hK _ ?_
        have ht : (l.map (moreF seq y)).take (i + 1) = (l.map (moreF seq y)).take i ++ [moreF seq y l[i]] := by rw [List.take_succ_eq_append_getElem (by simpa using hil)]; simp
        refine hN0 (l.length - (i + 1)) _ (by omega) ⟨i + 1, _, rfl, by simp [upd, f0], by simp [upd, f1], by simp [upd, f2], by simp [upd, f3], by rw [ht, hx, ← htk]; rfl, fun _ => by rw [ht, ← htk]; simp [upd], ?_⟩
        simp [upd]; rw [w64 (by omega) (by omega)]
      · have hq : ((l[i].seq : Int) == (seq : Int)) = false := by simp; omega
        have hx : moreF seq y l[i] = l[i] := if_neg hs
        refine CW_reg fun K_ hK => ?_
        simp [wk, vk, ek, ok, buildD, fillD, thr, f0, f1, f2, f3, f9, f10, hil, dMsg, dR, e5, e5', e2, e6, hq]
        refine hK _ ?_
        refine CW_no rfl ?_
        refine CW_sk ?_
        refine CW_seq1 ?_
        refine CW_reg fun K_ hK => ?_
        simp [wk, vk, ek, ok, buildD, fillD, thr, f0, f1, f2, f3, f9, f10, hil, dMsg, dR, e5, e5', e2, e6, hq]
        refine hK _ ?_
        refine CW_no rfl ?_
        refine CW_sk ?_
        refine CW_reg1 fun K_ hK => ?_
        simp [wk, vk, ek, ok, buildD, fillD, thr, f0, f1, f2, f3, f9, f10, hil, dMsg, dR, e5, e5', e2, e6, hq]
        refine AppW_use (app_M tk l[i] g htp (by omega)) ?_
        simp [wk, vk, ek, ok, buildD, fillD, thr, f0, f1, f2, f3, f9, f10, hil, dMsg, dR, e5, e5', e2, e6, hq]
        refine hK _ ?_
        refine hn1 _ ?_
        refine CW_reg1 fun K_ hK => ?_
        simp [wk, vk, ek, ok, buildD, fillD, thr, f0, f1, f2, f3, f9, f10, hil, dMsg, dR, e5, e5', e2, e6, hq]
        refine hK _ ?_
        have ht : (l.map (moreF seq y)).take (i + 1) = (l.map (moreF seq y)).take i ++ [moreF seq y l[i]] := by rw [List.take_succ_eq_append_getElem (by simpa using hil)]; simp
        refine hN0 (l.length - (i + 1)) _ (by omega) ⟨i + 1, _, rfl, by simp [upd, f0], by simp [upd, f1], by simp [upd, f2], by simp [upd, f3], by rw [ht, hx, ← htk]; rfl, fun _ => by rw [ht, ← htk]; simp [upd], ?_⟩
        simp [upd]; rw [w64 (by omega) (by omega)]
    · have hil : ¬ i < l.length := by simpa [wk, vk, ek, ok, f0, f10] using hct28
      rw [List.take_of_length_le (by simp; omega)] at htk
      rw [htk] at f9
      refine CW_ex ?_
      refine hX0 _ ?_
      refine CW_reg fun K_ hK => ?_
      simp [wk, vk, ek, ok, buildD, fillD, thr, f9]
      refine hK _ ?_
      refine CW_rt ?_
      refine ends_ret ?_
      simp [Tryz.results109, resD, resL, resD1, vk, wk, ok, buildD, fillD, ek, f9]
theorem more109q (l : List Msg) (hl : l.length ≤ 1000) (seq : Nat) (y : Msg) (h : MsgOK y) : Fc T W 109 [dMsgs l, .i .u8 113, .i .i64 seq, dBytes (textB y.attr ++ (numB y.tries ++ (numB y.til ++ (numB (isDead y)))))] (dMsgs (l.map (msgF seq y))) := by
  obtain ⟨B, hB⟩ : ∃ B, B = textB y.attr ++ (numB y.tries ++ (numB y.til ++ (numB (isDead y)))) := ⟨_, rfl⟩
  rw [← hB]
  have hq0 := textB_len y.attr (by have := h.attr; omega)
  have hq1 := numB_len8 (n := y.tries) (by have := h.tries; omega)
  have hq2 := numB_len8 (n := y.til) (by have := h.til; omega)
  have hq3 := numB_len8 (n := (isDead y)) (by have := isDead_le y; omega)
  have hBl : B.length ≤ 100000000 := by rw [hB]; (try simp); omega
  obtain ⟨k1, hk1⟩ : ∃ k, k = 0 + (textB y.attr).length := ⟨_, rfl⟩
  obtain ⟨k2, hk2⟩ : ∃ k, k = k1 + (numB y.tries).length := ⟨_, rfl⟩
  obtain ⟨k3, hk3⟩ : ∃ k, k = k2 + (numB y.til).length := ⟨_, rfl⟩
  obtain ⟨k4, hk4⟩ : ∃ k, k = k3 + (numB (isDead y)).length := ⟨_, rfl⟩
  have e2 := h.why.symm
  have e4 : ¬ 2 < deathN y := by have := deathN_le y; omega
  have e5' : (if (2 : Int) < ((deathN y : Nat) : Int) then (2 : Int) else ((deathN y : Nat) : Int)) = ((deathN y : Nat) : Int) := if_neg (by omega)
  have e5 : (if 2 < deathN y then (2 : Int) else ((deathN y : Nat) : Int)) = ((deathN y : Nat) : Int) := if_neg e4
  have e6 : (((isDead y : Nat) : Int) == 1) = y.dead := by unfold isDead; cases y.dead <;> rfl
  refine Fc_intro (thr := thr) hmix Tryz.func109 rfl (by kernel_rfl) (by simp [Tryz.ntmps109]) ?_
  refine CW_reg fun K_ hK => ?_
  simp [wk, vk, ek, ok, buildD, fillD, thr, dR]
  refine hK _ ?_
  refine CW_reg fun K_ hK => ?_
  simp [wk, vk, ek, ok, buildD, fillD, thr, dR]
  refine hK _ ?_
  refine CW_seq1 ?_
  refine CW_reg fun K_ hK => ?_
  simp [wk, vk, ek, ok, buildD, fillD, thr, dR]
  refine hK _ ?_
  refine CW_for (fun j τ => ∃ i g : Nat, j = l.length - i ∧ τ.fr 0 = dMsgs l ∧ τ.fr 1 = .i .u8 113 ∧ τ.fr 2 = .i .i64 seq ∧ τ.fr 3 = dBytes B ∧ τ.fr 9 = oM g ((l.map (msgF seq y)).take i) ∧ ((l.map (msgF seq y)).take i ≠ [] → τ.tp 42 = some (g, ((l.map (msgF seq y)).take i).length)) ∧ τ.fr 10 = .i .i64 i) (l.length) ?_ ?_
  · exact ⟨0, 0, rfl, by simp [upd], by simp [upd], by simp [upd], by simp [upd], by simp [upd]; rfl, by simp, by simp [upd]⟩
  · rintro j ⟨fr, bx, tp, c⟩ ⟨i, g, rfl, f0, f1, f2, f3, f9, htp, f10⟩ K0 hN0 hX0 hR0 hJ0
    simp only at f0 f1 f2 f3 f9 htp f10
    obtain ⟨tk, htk⟩ : ∃ tk, tk = (l.map (msgF seq y)).take i := ⟨_, rfl⟩
    rw [← htk] at f9 htp
    have htl : tk.length ≤ 1000 := by rw [htk]; simp; omega
    refine CW_seq1 ?_
    refine CW_reg fun K_ hK => ?_
    simp [wk, vk, ek, ok, buildD, fillD, thr, f0, f1, f2, f3, f9, f10]
    refine hK _ ?_
    refine CW_cond rfl (fun hct28 => ?_) (fun hct28 => ?_)
    · have hil : i < l.length := by simpa [wk, vk, ek, ok, f0, f10] using hct28
      refine CW_sk ?_
      refine CW_seq1 ?_
      refine CW_blk fun K1 hn1 hx1 hr1 hj1 => ?_
      refine CW_reg fun K_ hK => ?_
      simp [wk, vk, ek, ok, buildD, fillD, thr, f0, f1, f2, f3, f9, f10, hil, dMsg, dR, e5, e5', e2, e6]
      refine hK _ ?_
      refine CW_reg fun K_ hK => ?_
      simp [wk, vk, ek, ok, buildD, fillD, thr, f0, f1, f2, f3, f9, f10, hil, dMsg, dR, e5, e5', e2, e6]
      refine hK _ ?_
      refine CW_seq1 ?_
      by_cases hs : l[i].seq = seq
      · have hq : ((l[i].seq : Int) == (seq : Int)) = true := by simp [hs]
        have hx : msgF seq y l[i] = { l[i] with attr := y.attr, tries := y.tries, til := y.til, dead := y.dead } := if_pos hs
        refine CW_reg fun K_ hK => ?_
        simp [wk, vk, ek, ok, buildD, fillD, thr, f0, f1, f2, f3, f9, f10, hil, dMsg, dR, e5, e5', e2, e6, hq]
        refine hK _ ?_
        refine CW_no rfl ?_
        refine CW_sk ?_
        refine CW_seq1 ?_
        refine CW_reg fun K_ hK => ?_
        simp [wk, vk, ek, ok, buildD, fillD, thr, f0, f1, f2, f3, f9, f10, hil, dMsg, dR, e5, e5', e2, e6, hq]
        refine hK _ ?_
        refine CW_yes rfl ?_
        refine CW_reg fun K_ hK => ?_
        simp [wk, vk, ek, ok, buildD, fillD, thr, f0, f1, f2, f3, f9, f10, hil, dMsg, dR, e5, e5', e2, e6, hq]
        refine CallW_use (by have h := rText108 (W := W) ([]) (numB y.tries ++ (numB y.til ++ (numB (isDead y)))) (y.attr) 30 (by have := h.attr; omega) (by omega) B (by simp [hB]) hBl 0 rfl; rw [← hk1] at h; exact h) ?_
        simp [wk, vk, ek, ok, buildD, fillD, thr, f0, f1, f2, f3, f9, f10, hil, dMsg, dR, e5, e5', e2, e6, hq]
        refine hK _ ?_
        refine CW_reg fun K_ hK => ?_
        simp [wk, vk, ek, ok, buildD, fillD, thr, f0, f1, f2, f3, f9, f10, hil, dMsg, dR, e5, e5', e2, e6, hq]
        refine CallW_use (by have h := rNum128 (W := W) (textB y.attr) (numB y.til ++ (numB (isDead y))) (y.tries) (by have := h.tries; omega) B (by simp [hB]) hBl k1 (by simp [hk1]); rw [← hk2] at h; exact h) ?_
        simp [wk, vk, ek, ok, buildD, fillD, thr, f0, f1, f2, f3, f9, f10, hil, dMsg, dR, e5, e5', e2, e6, hq]
        refine hK _ ?_
        refine CW_reg fun K_ hK => ?_
        simp [wk, vk, ek, ok, buildD, fillD, thr, f0, f1, f2, f3, f9, f10, hil, dMsg, dR, e5, e5', e2, e6, hq]
        refine CallW_use (by have h := rNum128 (W := W) (textB y.attr ++ (numB y.tries)) (numB (isDead y)) (y.til) (by have := h.til; omega) B (by simp [hB]) hBl k2 (by rw [hk2, hk1]; simp <;> omega); rw [← hk3] at h; exact h) ?_
        simp [wk, vk, ek, ok, buildD, fillD, thr, f0, f1, f2, f3, f9, f10, hil, dMsg, dR, e5, e5', e2, e6, hq]
        refine hK _ ?_
        refine CW_reg fun K_ hK => ?_
        simp [wk, vk, ek, ok, buildD, fillD, thr, f0, f1, f2, f3, f9, f10, hil, dMsg, dR, e5, e5', e2, e6, hq]
        refine CallW_use (by have h := rNum128 (W := W) (textB y.attr ++ (numB y.tries ++ (numB y.til))) ([]) ((isDead y)) (by have := isDead_le y; omega) B (by simp [hB]) hBl k3 (by rw [hk3, hk2, hk1]; simp <;> omega); rw [← hk4] at h; exact h) ?_
        simp [wk, vk, ek, ok, buildD, fillD, thr, f0, f1, f2, f3, f9, f10, hil, dMsg, dR, e5, e5', e2, e6, hq]
        refine hK _ ?_
        refine CW_reg fun K_ hK => ?_
        simp [wk, vk, ek, ok, buildD, fillD, thr, f0, f1, f2, f3, f9, f10, hil, dMsg, dR, e5, e5', e2, e6, hq]
        refine hK _ ?_
        refine CW_reg fun K_ hK => ?_
        simp [wk, vk, ek, ok, buildD, fillD, thr, f0, f1, f2, f3, f9, f10, hil, dMsg, dR, e5, e5', e2, e6, hq]
        refine hK _ ?_
        refine CW_reg fun K_ hK => ?_
        simp [wk, vk, ek, ok, buildD, fillD, thr, f0, f1, f2, f3, f9, f10, hil, dMsg, dR, e5, e5', e2, e6, hq]
        refine hK _ ?_
        refine CW_reg1 fun K_ hK => ?_
        simp [wk, vk, ek, ok, buildD, fillD, thr, f0, f1, f2, f3, f9, f10, hil, dMsg, dR, e5, e5', e2, e6, hq]
        refine hK _ ?_
        refine CW_reg1 fun K_ hK => ?_
        simp [wk, vk, ek, ok, buildD, fillD, thr, f0, f1, f2, f3, f9, f10, hil, dMsg, dR, e5, e5', e2, e6, hq]
        refine AppW_use (app_M tk { l[i] with attr := y.attr, tries := y.tries, til := y.til, dead := y.dead } g htp (by omega)) ?_
        simp [wk, vk, ek, ok, buildD, fillD, thr, f0, f1, f2, f3, f9, f10, hil, dMsg, dR, e5, e5', e2, e6, hq]
        refine hK _ ?_
        refine hn1 _ ?_
        refine CW_reg1 fun K_ hK => ?_
        simp [wk, vk, ek, ok, buildD, fillD, thr, f0, f1, f2, f3, f9, f10, hil, dMsg, dR, e5, e5', e2, e6, hq]
        refine hK _ ?_
        have ht : (l.map (msgF seq y)).take (i + 1) = (l.map (msgF seq y)).take i ++ [msgF seq y l[i]] := by rw [List.take_succ_eq_append_getElem (by simpa using hil)]; simp
        refine hN0 (l.length - (i + 1)) _ (by omega) ⟨i + 1, _, rfl, by simp [upd, f0], by simp [upd, f1], by simp [upd, f2], by simp [upd, f3], by rw [ht, hx, ← htk]; rfl, fun _ => by rw [ht, ← htk]; simp [upd], ?_⟩
        simp [upd]; rw [w64 (by omega) (by omega)]
      · have hq : ((l[i].seq : Int) == (seq : Int)) = false := by simp; omega
        have hx : msgF seq y l[i] = l[i] := if_neg hs
        refine CW_reg fun K_ hK => ?_
        simp [wk, vk, ek, ok, buildD, fillD, thr, f0, f1, f2, f3, f9, f10, hil, dMsg, dR, e5, e5', e2, e6, hq]
        refine hK _ ?_
        refine CW_no rfl ?_
        refine CW_sk ?_
        refine CW_seq1 ?_
        refine CW_reg fun K_ hK => ?_
        simp [wk, vk, ek, ok, buildD, fillD, thr, f0, f1, f2, f3, f9, f10, hil, dMsg, dR, e5, e5', e2, e6, hq]
        refine hK _ ?_
        refine CW_no rfl ?_
        refine CW_sk ?_
        refine CW_reg1 fun K_ hK => ?_
        simp [wk, vk, ek, ok, buildD, fillD, thr, f0, f1, f2, f3, f9, f10, hil, dMsg, dR, e5, e5', e2, e6, hq]
        refine AppW_use (app_M tk l[i] g htp (by omega)) ?_
        simp [wk, vk, ek, ok, buildD, fillD, thr, f0, f1, f2, f3, f9, f10, hil, dMsg, dR, e5, e5', e2, e6, hq]
        refine hK _ ?_
        refine hn1 _ ?_
        refine CW_reg1 fun K_ hK => ?_
        simp [wk, vk, ek, ok, buildD, fillD, thr, f0, f1, f2, f3, f9, f10, hil, dMsg, dR, e5, e5', e2, e6, hq]
        refine hK _ ?_
        have ht : (l.map (msgF seq y)).take (i + 1) = (l.map (msgF seq y)).take i ++ [msgF seq y l[i]] := by rw [List.take_succ_eq_append_getElem (by simpa using hil)]; simp
        refine hN0 (l.length - (i + 1)) _ (by omega) ⟨i + 1, _, rfl, by simp [upd, f0], by simp [upd, f1], by simp [upd, f2], by simp [upd, f3], by rw [ht, hx, ← htk]; rfl, fun _ => by rw [ht, ← htk]; simp [upd], ?_⟩
        simp [upd]; rw [w64 (by omega) (by omega)]
    · have hil : ¬ i < l.length := by simpa [wk, vk, ek, ok, f0, f10] using hct28
      rw [List.take_of_length_le (by simp; omega)] at htk
      rw [htk] at f9
      refine CW_ex ?_
      refine hX0 _ ?_
      refine CW_reg fun K_ hK => ?_
      simp [wk, vk, ek, ok, buildD, fillD, thr, f9]
      refine hK _ ?_
      refine CW_rt ?_
      refine ends_ret ?_
      simp [Tryz.results109, resD, resL, resD1, vk, wk, ok, buildD, fillD, ek, f9]
theorem body107 (l : List Msg) (hl : l.length ≤ 1000) (seq : Nat) (s : Str) (hs : s.length ≤ 60) : Fc T W 107 [dMsgs l, .i .i64 seq, dBytes (textB s)] (dMsgs (l ++ [{ seq := seq, body := s, attr := [], tries := 0, til := 0, dead := false, why := [], prio := 0 }])) := by
  obtain ⟨B, hB⟩ : ∃ B, B = textB s := ⟨_, rfl⟩
  rw [← hB]
  have hq0 := textB_len s (by have := hs; omega)
  have hBl : B.length ≤ 100000000 := by rw [hB]; (try simp); omega
  obtain ⟨k1, hk1⟩ : ∃ k, k = 0 + (textB s).length := ⟨_, rfl⟩
  refine Fc_intro (thr := thr) hmix Tryz.func107 rfl (by kernel_rfl) (by simp [Tryz.ntmps107]) ?_
  refine CW_reg fun K_ hK => ?_
  simp [wk, vk, ek, ok, buildD, fillD, thr, dR]
  refine hK _ ?_
  refine CW_reg fun K_ hK => ?_
  simp [wk, vk, ek, ok, buildD, fillD, thr, dR]
  refine hK _ ?_
  refine CW_reg fun K_ hK => ?_
  simp [wk, vk, ek, ok, buildD, fillD, thr, dR]
  refine CallW_use (by have h := rText108 (W := W) ([]) ([]) (s) 60 (by have := hs; omega) (by omega) B (by simp [hB]) hBl 0 rfl; rw [← hk1] at h; exact h) ?_
  simp [wk, vk, ek, ok, buildD, fillD, thr, dR]
  refine hK _ ?_
  refine CW_reg fun K_ hK => ?_
  simp [wk, vk, ek, ok, buildD, fillD, thr, dR]
  refine hK _ ?_
  refine CW_reg fun K_ hK => ?_
  simp [wk, vk, ek, ok, buildD, fillD, thr, dR]
  obtain ⟨g1, tp1, c1, ha1, ht1, _, _⟩ := app2_M [] l 0 (tp := fun _ => none) (c := 2) (by simp) (by simp; omega)
  rw [List.nil_append] at ha1 ht1
  refine AppW_use (ha1) ?_
  simp [wk, vk, ek, ok, buildD, fillD, thr, dR]
  refine hK _ ?_
  refine CW_reg fun K_ hK => ?_
  simp [wk, vk, ek, ok, buildD, fillD, thr, dR]
  refine AppW_use (app_M l { seq := seq, body := s, attr := [], tries := 0, til := 0, dead := false, why := [], prio := 0 } g1 ht1 (by omega)) ?_
  simp [wk, vk, ek, ok, buildD, fillD, thr, dR]
  refine hK _ ?_
  refine CW_reg fun K_ hK => ?_
  simp [wk, vk, ek, ok, buildD, fillD, thr, dR]
  refine hK _ ?_
  refine CW_rt ?_
  refine ends_ret ?_
  simp [Tryz.results107, resD, resL, resD1, vk, wk, ok, buildD, fillD, ek, dR]
end Go.Proofs.YtobamidecbfgpaaGreatDoor
