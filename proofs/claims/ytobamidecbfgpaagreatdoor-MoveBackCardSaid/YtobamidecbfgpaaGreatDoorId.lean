/- Numbers of subscriptions, and what is the same, over the shadow. No condition. -/
import Derived.Test.YtobamidecbfgpaaGreatDoorPu
namespace Go.Proofs.YtobamidecbfgpaaGreatDoor
open Go Go.Sh Go.RowKit
set_option linter.unusedVariables false
set_option linter.unusedSimpArgs false
set_option maxRecDepth 10000
variable {W : World}
theorem neq60 (a0 b0 : Int) (a1 b1 : List UInt8) (a2 b2 : List UInt8) (a3 b3 : Int) (a4 b4 : Int) (a5 b5 : Bool) (a6 b6 : List UInt8) (a7 b7 : Int) : binD T .neq 60 (.ag [.i .i64 a0, .s a1, .s a2, .i .i64 a3, .i .i64 a4, .b a5, .s a6, .i .i64 a7]) (.ag [.i .i64 b0, .s b1, .s b2, .i .i64 b3, .i .i64 b4, .b b5, .s b6, .i .i64 b7]) = (if a0 = b0 then (if a1 = b1 then (if a2 = b2 then (if a3 = b3 then (if a4 = b4 then (if a5 = b5 then (if a6 = b6 then (if a7 = b7 then some true else some false) else some false) else some false) else some false) else some false) else some false) else some false) else some false).map fun x => .b (!x) := by kernel_rfl
theorem eql28 (a0 b0 : Int) (a1 b1 : Int) (a2 b2 : Int) (a3 b3 : Bool) : binD T .eql 28 (.ag [.i .i64 a0, .i .i64 a1, .i .i64 a2, .b a3]) (.ag [.i .i64 b0, .i .i64 b1, .i .i64 b2, .b b3]) = (if a0 = b0 then (if a1 = b1 then (if a2 = b2 then (if a3 = b3 then some true else some false) else some false) else some false) else some false).map fun x => .b x := by kernel_rfl
theorem neq28 (a0 b0 : Int) (a1 b1 : Int) (a2 b2 : Int) (a3 b3 : Bool) : binD T .neq 28 (.ag [.i .i64 a0, .i .i64 a1, .i .i64 a2, .b a3]) (.ag [.i .i64 b0, .i .i64 b1, .i .i64 b2, .b b3]) = (if a0 = b0 then (if a1 = b1 then (if a2 = b2 then (if a3 = b3 then some true else some false) else some false) else some false) else some false).map fun x => .b (!x) := by kernel_rfl
def idSub (n : Nat) : Sub := { z0 with id := n }
def idsP (s : Sta) (r : Kr) : Sta := if 0 < r.v then putS s (idSub r.id) else s
def idsS (l : List Kr) : Sta := l.foldl idsP ⟨0, 0, 0, []⟩
theorem idsP_len (s : Sta) (r : Kr) : (idsP s r).subs.length ≤ s.subs.length + 1 := by
  unfold idsP
  split
  · simp only [putS, insS_len]; have := woS_len (idSub r.id).id s.subs; omega
  · omega
theorem idsF_len : ∀ (l : List Kr) (s : Sta), (l.foldl idsP s).subs.length ≤ s.subs.length + l.length
  | [], s => by simp
  | r :: l, s => by
    have h1 := idsF_len l (idsP s r)
    have h2 := idsP_len s r
    simp only [List.foldl_cons, List.length_cons] at h1 ⊢; omega
def ofKs (l : List Kr) : List Row := l.map Kr.row
theorem ids27 (L : Laid W) (l : List Kr) (hl : l.length ≤ 900) (hk : ∀ r ∈ l, KrOK r) : Fc T W 27 [dRows (l.map Kr.row)] (dInts ((idsS l).subs.map (·.id))) := by
  refine Fc_intro (thr := thr) hmix Tryz.func27 rfl (by kernel_rfl) (by simp [Tryz.ntmps27]) ?_
  refine CW_reg fun K_ hK => ?_
  simp [wk, vk, ek, ok, lk, er_oK, er_dRows, er_dSubs2, buildD, fillD, thr]
  refine hK _ ?_
  refine CW_reg fun K_ hK => ?_
  simp [wk, vk, ek, ok, lk, er_oK, er_dRows, er_dSubs2, buildD, fillD, thr]
  refine hK _ ?_
  refine CW_seq1 ?_
  refine CW_reg fun K_ hK => ?_
  simp [wk, vk, ek, ok, lk, er_oK, er_dRows, er_dSubs2, buildD, fillD, thr]
  refine hK _ ?_
  refine CW_for (fun j τ => ∃ (i : Nat) (s : Sta), j = l.length - i ∧ i ≤ l.length ∧ s = (l.take i).foldl idsP ⟨0, 0, 0, []⟩ ∧ τ.fr 0 = dRows (l.map Kr.row) ∧ τ.fr 3 = .p 3 0 0 ∧ τ.bx 3 0 = some (dSta s) ∧ τ.fr 4 = .i .i64 i) (l.length) ?_ ?_
  · exact ⟨0, ⟨0, 0, 0, []⟩, rfl, by omega, rfl, by simp [upd], by simp [upd], by simp [upd2]; rfl, by simp [upd]⟩
  · rintro j ⟨fr, bx, tp, c⟩ ⟨i, s, rfl, hi, hs, f0, f3, b3, f4⟩ K0 hN0 hX0 hR0 hJ0
    simp only at f0 f3 b3 f4
    rw [dSta] at b3
    have hsl : s.subs.length ≤ 900 := by rw [hs]; exact Nat.le_trans (idsF_len _ _) (by simp; omega)
    refine CW_seq1 ?_
    refine CW_reg fun K_ hK => ?_
    simp [wk, vk, ek, ok, lk, er_oK, er_dRows, er_dSubs2, buildD, fillD, thr, f0, f3, b3, f4]
    refine hK _ ?_
    refine CW_cond rfl (fun hct16 => ?_) (fun hct16 => ?_)
    · have hil : i < l.length := by simpa [wk, vk, ek, ok, f0, f4] using hct16
      have hok := hk _ (List.getElem_mem hil)
      have hrow : (l[i]).row.key = keyB l[i].v l[i].t l[i].id l[i].seq := rfl
      refine CW_sk ?_
      refine CW_seq1 ?_
      refine CW_blk fun K1 hn1 hx1 hr1 hj1 => ?_
      refine CW_reg fun K_ hK => ?_
      simp [wk, vk, ek, ok, lk, er_oK, er_dRows, er_dSubs2, buildD, fillD, thr, f0, f3, b3, f4, hil, dRow]
      refine CallW_use (by rw [hrow]; exact parts_ok L l[i].v l[i].t l[i].id l[i].seq hok.v hok.t (by have := hok.id; omega) (by have := hok.seq; omega)) ?_
      simp [wk, vk, ek, ok, lk, er_oK, er_dRows, er_dSubs2, buildD, fillD, thr, f0, f3, b3, f4, hil, dRow]
      refine hK _ ?_
      by_cases hv : 0 < l[i].v
      · have hvi : (0 : Int) < (l[i].v : Int) := by omega
        have hst : (l.take (i + 1)).foldl idsP ⟨0, 0, 0, []⟩ = putS ((l.take i).foldl idsP ⟨0, 0, 0, []⟩) (idSub l[i].id) := by rw [fold_take _ _ _ _ hil, idsP, if_pos hv]
        refine CW_reg fun K_ hK => ?_
        simp [wk, vk, ek, ok, lk, er_oK, er_dRows, er_dSubs2, buildD, fillD, thr, f0, f3, b3, f4, hil, hv, hvi]
        refine hK _ ?_
        refine CW_yes rfl ?_
        refine CW_reg1 fun K_ hK => ?_
        simp [wk, vk, ek, ok, lk, er_oK, er_dRows, er_dSubs2, buildD, fillD, thr, f0, f3, b3, f4, hil, hv, hvi, dSta]
        refine CallW_use (put11 s (idSub l[i].id) hsl) ?_
        simp [wk, vk, ek, ok, lk, er_oK, er_dRows, er_dSubs2, buildD, fillD, thr, f0, f3, b3, f4, hil, hv, hvi, dSta]
        refine hK _ ?_
        refine hn1 _ ?_
        refine CW_reg1 fun K_ hK => ?_
        simp [wk, vk, ek, ok, lk, er_oK, er_dRows, er_dSubs2, buildD, fillD, thr, f0, f3, b3, f4, hil, hv, hvi]
        refine hK _ ?_
        refine hN0 (l.length - (i + 1)) _ (by omega) ⟨i + 1, putS s (idSub l[i].id), rfl, by omega, by rw [hst, ← hs], by simp [upd, f0], by simp [upd, f3], by simp [upd2, dSta], ?_⟩
        simp [upd]; rw [w64 (by omega) (by omega)]
      · have hvi : ¬ (0 : Int) < (l[i].v : Int) := by omega
        have hst : (l.take (i + 1)).foldl idsP ⟨0, 0, 0, []⟩ = (l.take i).foldl idsP ⟨0, 0, 0, []⟩ := by rw [fold_take _ _ _ _ hil, idsP, if_neg hv]
        have hv0 : l[i].v = 0 := by omega
        refine CW_reg fun K_ hK => ?_
        simp [wk, vk, ek, ok, lk, er_oK, er_dRows, er_dSubs2, buildD, fillD, thr, f0, f3, b3, f4, hil, hvi, hv]
        refine hK _ ?_
        refine CW_no rfl ?_
        refine CW_sk ?_
        refine hn1 _ ?_
        refine CW_reg1 fun K_ hK => ?_
        simp [wk, vk, ek, ok, lk, er_oK, er_dRows, er_dSubs2, buildD, fillD, thr, f0, f3, b3, f4, hil, hvi, hv]
        refine hK _ ?_
        refine hN0 (l.length - (i + 1)) _ (by omega) ⟨i + 1, s, rfl, by omega, by rw [hst, ← hs], by simp [upd, f0], by simp [upd, f3], by simp [upd2, b3, dSta], ?_⟩
        simp [upd]; rw [w64 (by omega) (by omega)]
    · have hil : ¬ i < l.length := by simpa [wk, vk, ek, ok, f0, f4] using hct16
      rw [List.take_of_length_le (by omega)] at hs
      have hids : idsS l = s := hs.symm
      obtain ⟨q, hq⟩ : ∃ q, q = s := ⟨_, rfl⟩
      rw [← hq] at hsl b3 hids
      refine CW_ex ?_
      refine hX0 _ ?_
      refine CW_reg fun K_ hK => ?_
      simp [wk, vk, ek, ok, lk, er_oK, er_dRows, er_dSubs2, buildD, fillD, thr, f0, f3, b3]
      refine hK _ ?_
      refine CW_seq1 ?_
      refine CW_reg fun K_ hK => ?_
      simp [wk, vk, ek, ok, lk, er_oK, er_dRows, er_dSubs2, buildD, fillD, thr, f0, f3, b3]
      refine hK _ ?_
      refine CW_for (fun j τ => ∃ (i g : Nat), j = q.subs.length - i ∧ i ≤ q.subs.length ∧ τ.fr 3 = .p 3 0 0 ∧ τ.bx 3 0 = some (dSta q) ∧ τ.fr 10 = oI g ((q.subs.map (·.id)).take i) ∧ ((q.subs.map (·.id)).take i ≠ [] → τ.tp 41 = some (g, ((q.subs.map (·.id)).take i).length)) ∧ τ.fr 11 = .i .i64 i) (q.subs.length) ?_ ?_
      · exact ⟨0, 0, rfl, by omega, by simp [upd, f3], by simp [upd2, b3, dSta], by simp [upd]; rfl, by simp, by simp [upd]⟩
      · rintro j ⟨fr, bx, tp, c⟩ ⟨i, g, rfl, hi, f3, b3, f10, htp, f11⟩ K2 hN2 hX2 hR2 hJ2
        simp only at f3 b3 f10 htp f11
        rw [dSta] at b3
        obtain ⟨tk, htk⟩ : ∃ tk, tk = (q.subs.map (·.id)).take i := ⟨_, rfl⟩
        rw [← htk] at f10 htp
        have htl : tk.length ≤ 1000 := by rw [htk]; simp; omega
        refine CW_seq1 ?_
        refine CW_reg fun K_ hK => ?_
        simp [wk, vk, ek, ok, lk, er_oK, er_dRows, er_dSubs2, buildD, fillD, thr, f3, b3, f10, f11]
        refine hK _ ?_
        refine CW_cond rfl (fun hct44 => ?_) (fun hct44 => ?_)
        · have hil : i < q.subs.length := by simpa [wk, vk, ek, ok, f3, b3, f11] using hct44
          refine CW_sk ?_
          refine CW_seq1 ?_
          refine CW_blk fun K3 hn3 hx3 hr3 hj3 => ?_
          refine CW_reg1 fun K_ hK => ?_
          simp [wk, vk, ek, ok, lk, er_oK, er_dRows, er_dSubs2, buildD, fillD, thr, f3, b3, f10, f11, hil, dSub, dSta]
          refine AppW_use (app_I tk q.subs[i].id g htp (by omega)) ?_
          simp [wk, vk, ek, ok, lk, er_oK, er_dRows, er_dSubs2, buildD, fillD, thr, f3, b3, f10, f11, hil, dSub, dSta]
          refine hK _ ?_
          refine hn3 _ ?_
          refine CW_reg1 fun K_ hK => ?_
          simp [wk, vk, ek, ok, lk, er_oK, er_dRows, er_dSubs2, buildD, fillD, thr, f3, b3, f10, f11, hil]
          refine hK _ ?_
          have ht : (q.subs.map (·.id)).take (i + 1) = tk ++ [q.subs[i].id] := by rw [List.take_succ_eq_append_getElem (by simpa using hil), htk]; simp
          refine hN2 (q.subs.length - (i + 1)) _ (by omega) ⟨i + 1, _, rfl, by omega, by simp [upd, f3], by simp [upd2, b3, dSta], by rw [ht]; rfl, fun _ => by rw [ht]; simp [upd], ?_⟩
          simp [upd]; rw [w64 (by omega) (by omega)]
        · have hil : ¬ i < q.subs.length := by simpa [wk, vk, ek, ok, f3, b3, f11] using hct44
          rw [List.take_of_length_le (by simp; omega)] at htk
          rw [htk] at f10
          refine CW_ex ?_
          refine hX2 _ ?_
          refine CW_reg fun K_ hK => ?_
          simp [wk, vk, ek, ok, lk, er_oK, er_dRows, er_dSubs2, buildD, fillD, thr, f10]
          refine hK _ ?_
          refine CW_rt ?_
          refine ends_ret ?_
          simp [Tryz.results27, resD, resL, resD1, vk, wk, ok, lk, er_oK, er_dRows, er_dSubs2, buildD, fillD, ek, hids, f10]
theorem same53 (l : List Msg) (hl : l.length ≤ 1000) : Fc T W 53 [dMsgs l, dMsgs l] (.b true) := by
  refine Fc_intro (thr := thr) hmix Tryz.func53 rfl (by kernel_rfl) (by simp [Tryz.ntmps53]) ?_
  refine CW_reg fun K_ hK => ?_
  simp [wk, vk, ek, ok, lk, er_oK, er_dRows, er_dSubs2, buildD, fillD, thr]
  refine hK _ ?_
  refine CW_seq1 ?_
  refine CW_reg fun K_ hK => ?_
  simp [wk, vk, ek, ok, lk, er_oK, er_dRows, er_dSubs2, buildD, fillD, thr]
  refine hK _ ?_
  refine CW_no rfl ?_
  refine CW_sk ?_
  refine CW_seq1 ?_
  refine CW_reg fun K_ hK => ?_
  simp [wk, vk, ek, ok, lk, er_oK, er_dRows, er_dSubs2, buildD, fillD, thr]
  refine hK _ ?_
  refine CW_for (fun j τ => ∃ i : Nat, j = l.length - i ∧ τ.fr 0 = dMsgs l ∧ τ.fr 1 = dMsgs l ∧ τ.fr 5 = .i .i64 i) (l.length) ?_ ?_
  · exact ⟨0, rfl, by simp [upd], by simp [upd], by simp [upd]⟩
  · rintro j ⟨fr, bx, tp, c⟩ ⟨i, rfl, f0, f1, f5⟩ K0 hN0 hX0 hR0 hJ0
    simp only at f0 f1 f5
    refine CW_seq1 ?_
    refine CW_reg fun K_ hK => ?_
    simp [wk, vk, ek, ok, lk, er_oK, er_dRows, er_dSubs2, buildD, fillD, thr, f0, f1, f5]
    refine hK _ ?_
    refine CW_cond rfl (fun hct14 => ?_) (fun hct14 => ?_)
    · have hil : i < l.length := by simpa [wk, vk, ek, ok, f0, f5] using hct14
      have neqM : binD T .neq 60 (dMsg l[i]) (dMsg l[i]) = some (.b false) := by simp [dMsg, neq60]
      refine CW_sk ?_
      refine CW_seq1 ?_
      refine CW_blk fun K1 hn1 hx1 hr1 hj1 => ?_
      refine CW_reg fun K_ hK => ?_
      simp [wk, vk, ek, ok, lk, er_oK, er_dRows, er_dSubs2, buildD, fillD, thr, f0, f1, f5, hil, neqM, isAg_msg, clen_msg, neqM]
      refine hK _ ?_
      refine CW_no rfl ?_
      refine CW_sk ?_
      refine hn1 _ ?_
      refine CW_reg1 fun K_ hK => ?_
      simp [wk, vk, ek, ok, lk, er_oK, er_dRows, er_dSubs2, buildD, fillD, thr, f0, f1, f5, hil, neqM]
      refine hK _ ?_
      refine hN0 (l.length - (i + 1)) _ (by omega) ⟨i + 1, rfl, by simp [upd, f0], by simp [upd, f1], ?_⟩
      simp [upd]; rw [w64 (by omega) (by omega)]
    · refine CW_ex ?_
      refine hX0 _ ?_
      refine CW_reg fun K_ hK => ?_
      simp [wk, vk, ek, ok, lk, er_oK, er_dRows, er_dSubs2, buildD, fillD, thr]
      refine hK _ ?_
      refine CW_rt ?_
      refine ends_ret ?_
      simp [Tryz.results53, resD, resL, resD1, vk, wk, ok, lk, er_oK, er_dRows, er_dSubs2, buildD, fillD, ek]
theorem same37 (x : Sub) (ha : x.acks.length ≤ 1000) (hq : x.queue.length ≤ 1000) : Fc T W 37 [dSub x, dSub x] (.b true) := by
  refine Fc_intro (thr := thr) hmix Tryz.func37 rfl (by kernel_rfl) (by simp [Tryz.ntmps37]) ?_
  refine CW_reg fun K_ hK => ?_
  simp [wk, vk, ek, ok, lk, er_oK, er_dRows, er_dSubs2, buildD, fillD, thr, dSub]
  refine hK _ ?_
  refine CW_seq1 ?_
  refine CW_reg fun K_ hK => ?_
  simp [wk, vk, ek, ok, lk, er_oK, er_dRows, er_dSubs2, buildD, fillD, thr, dSub]
  refine hK _ ?_
  refine CW_no rfl ?_
  refine CW_sk ?_
  refine CW_seq1 ?_
  refine CW_reg fun K_ hK => ?_
  simp [wk, vk, ek, ok, lk, er_oK, er_dRows, er_dSubs2, buildD, fillD, thr, dSub]
  refine hK _ ?_
  refine CW_for (fun j τ => ∃ i : Nat, j = x.acks.length - i ∧ τ.fr 2 = .p 2 0 0 ∧ τ.bx 2 0 = some (dSub x) ∧ τ.fr 3 = .p 3 1 0 ∧ τ.bx 3 1 = some (dSub x) ∧ τ.fr 5 = .i .i64 i) (x.acks.length) ?_ ?_
  · exact ⟨0, rfl, by simp [upd], by simp [upd2, dSub], by simp [upd], by simp [upd2, dSub], by simp [upd]⟩
  · rintro j ⟨fr, bx, tp, c⟩ ⟨i, rfl, f2, b2, f3, b3, f5⟩ K0 hN0 hX0 hR0 hJ0
    simp only at f2 b2 f3 b3 f5
    rw [dSub] at b2 b3
    refine CW_seq1 ?_
    refine CW_reg fun K_ hK => ?_
    simp [wk, vk, ek, ok, lk, er_oK, er_dRows, er_dSubs2, buildD, fillD, thr, f2, b2, f3, b3, f5]
    refine hK _ ?_
    refine CW_cond rfl (fun hct73 => ?_) (fun hct73 => ?_)
    · have hil : i < x.acks.length := by simpa [wk, vk, ek, ok, f2, b2, f5] using hct73
      refine CW_sk ?_
      refine CW_seq1 ?_
      refine CW_blk fun K1 hn1 hx1 hr1 hj1 => ?_
      refine CW_reg fun K_ hK => ?_
      simp [wk, vk, ek, ok, lk, er_oK, er_dRows, er_dSubs2, buildD, fillD, thr, f2, b2, f3, b3, f5, hil]
      refine hK _ ?_
      refine CW_no rfl ?_
      refine CW_sk ?_
      refine hn1 _ ?_
      refine CW_reg1 fun K_ hK => ?_
      simp [wk, vk, ek, ok, lk, er_oK, er_dRows, er_dSubs2, buildD, fillD, thr, f2, b2, f3, b3, f5, hil]
      refine hK _ ?_
      refine hN0 (x.acks.length - (i + 1)) _ (by omega) ⟨i + 1, rfl, by simp [upd, f2], by simp [upd2, b2, dSub], by simp [upd, f3], by simp [upd2, b3, dSub], ?_⟩
      simp [upd]; rw [w64 (by omega) (by omega)]
    · refine CW_ex ?_
      refine hX0 _ ?_
      refine CW_reg fun K_ hK => ?_
      simp [wk, vk, ek, ok, lk, er_oK, er_dRows, er_dSubs2, buildD, fillD, thr, f2, b2, f3, b3]
      refine CallW_use (same53 x.queue hq) ?_
      simp [wk, vk, ek, ok, lk, er_oK, er_dRows, er_dSubs2, buildD, fillD, thr, f2, b2, f3, b3]
      refine hK _ ?_
      refine CW_rt ?_
      refine ends_ret ?_
      simp [Tryz.results37, resD, resL, resD1, vk, wk, ok, lk, er_oK, er_dRows, er_dSubs2, buildD, fillD, ek, f2, b2, f3, b3]
theorem same20 (s : Sta) (hl : s.subs.length ≤ 1000) (hs : ∀ x ∈ s.subs, x.acks.length ≤ 1000 ∧ x.queue.length ≤ 1000) : Fc T W 20 [dSta s, dSta s] (.b true) := by
  refine Fc_intro (thr := thr) hmix Tryz.func20 rfl (by kernel_rfl) (by simp [Tryz.ntmps20]) ?_
  refine CW_reg fun K_ hK => ?_
  simp [wk, vk, ek, ok, lk, er_oK, er_dRows, er_dSubs2, buildD, fillD, thr, dSta]
  refine hK _ ?_
  refine CW_seq1 ?_
  refine CW_reg fun K_ hK => ?_
  simp [wk, vk, ek, ok, lk, er_oK, er_dRows, er_dSubs2, buildD, fillD, thr, dSta]
  refine hK _ ?_
  refine CW_no rfl ?_
  refine CW_sk ?_
  refine CW_seq1 ?_
  refine CW_reg fun K_ hK => ?_
  simp [wk, vk, ek, ok, lk, er_oK, er_dRows, er_dSubs2, buildD, fillD, thr, dSta]
  refine hK _ ?_
  refine CW_for (fun j τ => ∃ i : Nat, j = s.subs.length - i ∧ τ.fr 2 = .p 2 0 0 ∧ τ.bx 2 0 = some (dSta s) ∧ τ.fr 3 = .p 3 1 0 ∧ τ.bx 3 1 = some (dSta s) ∧ τ.fr 5 = .i .i64 i) (s.subs.length) ?_ ?_
  · exact ⟨0, rfl, by simp [upd], by simp [upd2, dSta], by simp [upd], by simp [upd2, dSta], by simp [upd]⟩
  · rintro j ⟨fr, bx, tp, c⟩ ⟨i, rfl, f2, b2, f3, b3, f5⟩ K0 hN0 hX0 hR0 hJ0
    simp only at f2 b2 f3 b3 f5
    rw [dSta] at b2 b3
    refine CW_seq1 ?_
    refine CW_reg fun K_ hK => ?_
    simp [wk, vk, ek, ok, lk, er_oK, er_dRows, er_dSubs2, buildD, fillD, thr, f2, b2, f3, b3, f5]
    refine hK _ ?_
    refine CW_cond rfl (fun hct38 => ?_) (fun hct38 => ?_)
    · have hil : i < s.subs.length := by simpa [wk, vk, ek, ok, f2, b2, f5] using hct38
      have hx := hs _ (List.getElem_mem hil)
      refine CW_sk ?_
      refine CW_seq1 ?_
      refine CW_blk fun K1 hn1 hx1 hr1 hj1 => ?_
      refine CW_reg fun K_ hK => ?_
      simp [wk, vk, ek, ok, lk, er_oK, er_dRows, er_dSubs2, buildD, fillD, thr, f2, b2, f3, b3, f5, hil, isAg_sub, clen_sub]
      refine CallW_use (same37 s.subs[i] hx.1 hx.2) ?_
      simp [wk, vk, ek, ok, lk, er_oK, er_dRows, er_dSubs2, buildD, fillD, thr, f2, b2, f3, b3, f5, hil, isAg_sub, clen_sub]
      refine hK _ ?_
      refine CW_no rfl ?_
      refine CW_sk ?_
      refine hn1 _ ?_
      refine CW_reg1 fun K_ hK => ?_
      simp [wk, vk, ek, ok, lk, er_oK, er_dRows, er_dSubs2, buildD, fillD, thr, f2, b2, f3, b3, f5, hil]
      refine hK _ ?_
      refine hN0 (s.subs.length - (i + 1)) _ (by omega) ⟨i + 1, rfl, by simp [upd, f2], by simp [upd2, b2, dSta], by simp [upd, f3], by simp [upd2, b3, dSta], ?_⟩
      simp [upd]; rw [w64 (by omega) (by omega)]
    · refine CW_ex ?_
      refine hX0 _ ?_
      refine CW_reg fun K_ hK => ?_
      simp [wk, vk, ek, ok, lk, er_oK, er_dRows, er_dSubs2, buildD, fillD, thr, f2, b2, f3, b3]
      refine hK _ ?_
      refine CW_rt ?_
      refine ends_ret ?_
      simp [Tryz.results20, resD, resL, resD1, vk, wk, ok, lk, er_oK, er_dRows, er_dSubs2, buildD, fillD, ek, f2, b2, f3, b3]
end Go.Proofs.YtobamidecbfgpaaGreatDoor
