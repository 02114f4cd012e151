/- Put, over the shadow. No condition. -/
import Derived.Test.YtobamidecbfgpaaGreatDoorRf
namespace Go.Proofs.YtobamidecbfgpaaGreatDoor
open Go Go.Sh Go.RowKit
set_option linter.unusedVariables false
set_option linter.unusedSimpArgs false
set_option maxRecDepth 10000
variable {W : World}
theorem er_dSubs2 (l : List Sub) : er (dSubs l) = dSubs l := er_dSubs l
theorem insS_len (x : Sub) : ∀ l, (insS x l).length = l.length + 1
  | [] => rfl
  | y :: r => by unfold insS; split <;> simp [insS_len x r]
theorem put11 (s : Sta) (x : Sub) (hl : s.subs.length ≤ 900) : Fc T W 11 [dSta s, dSub x] (dSta (putS s x)) := by
  obtain ⟨w, hw⟩ : ∃ w, w = woS x.id s.subs := ⟨_, rfl⟩
  have hwl : w.length ≤ 900 := by rw [hw]; exact Nat.le_trans (woS_len _ _) hl
  refine Fc_intro (thr := thr) hmix Tryz.func11 rfl (by kernel_rfl) (by simp [Tryz.ntmps11]) ?_
  refine CW_reg fun K_ hK => ?_
  simp [wk, vk, ek, ok, lk, er_oK, er_dRows, er_dSubs2, buildD, fillD, thr, dSta, dSub]
  refine hK _ ?_
  refine CW_reg fun K_ hK => ?_
  simp [wk, vk, ek, ok, lk, er_oK, er_dRows, er_dSubs2, buildD, fillD, thr, dSta, dSub]
  refine CallW_use (by have h := without21 (W := W) s x.id (by omega); rw [← hw] at h; exact h) ?_
  simp [wk, vk, ek, ok, lk, er_oK, er_dRows, er_dSubs2, buildD, fillD, thr, dSta, dSub]
  refine hK _ ?_
  refine CW_reg fun K_ hK => ?_
  simp [wk, vk, ek, ok, lk, er_oK, er_dRows, er_dSubs2, buildD, fillD, thr, dSta]
  refine hK _ ?_
  refine CW_reg fun K_ hK => ?_
  simp [wk, vk, ek, ok, lk, er_oK, er_dRows, er_dSubs2, buildD, fillD, thr, dSta]
  refine hK _ ?_
  refine CW_seq1 ?_
  refine CW_reg fun K_ hK => ?_
  simp [wk, vk, ek, ok, lk, er_oK, er_dRows, er_dSubs2, buildD, fillD, thr, dSta]
  refine hK _ ?_
  refine CW_for (fun j τ => ∃ (i g : Nat) (o : List Sub) (d : Bool), j = w.length - i ∧ i ≤ w.length ∧ o ++ (if d then w.drop i else insS x (w.drop i)) = insS x w ∧ τ.fr 2 = .p 2 0 0 ∧ τ.bx 2 0 = some (dSta s) ∧ τ.fr 3 = .p 3 1 0 ∧ τ.bx 3 1 = some (dSub x) ∧ τ.fr 4 = .p 4 2 0 ∧ τ.bx 4 2 = some (dSta ⟨0, 0, 0, []⟩) ∧ τ.fr 5 = .p 5 3 0 ∧ τ.bx 5 3 = some (dSta { s with subs := w }) ∧ τ.fr 6 = oS g o ∧ (o ≠ [] → τ.tp 23 = some (g, o.length)) ∧ τ.fr 7 = .b d ∧ τ.fr 8 = .i .i64 i) (w.length) ?_ ?_
  · exact ⟨0, 0, [], false, rfl, by omega, rfl, by simp [upd], by simp [upd2, dSta], by simp [upd], by simp [upd2, dSub], by simp [upd], by simp [upd2]; rfl, by simp [upd], by simp [upd2, dSta], by simp [upd]; rfl, by simp, by simp [upd], by simp [upd]⟩
  · rintro j ⟨fr, bx, tp, c⟩ ⟨i, g, o, d, rfl, hi, ho, f2, b2, f3, b3, f4, b4, f5, b5, f6, htp, f7, f8⟩ K0 hN0 hX0 hR0 hJ0
    have hol : o.length ≤ 901 := by have h := congrArg List.length ho; rw [insS_len, List.length_append] at h; omega
    simp only at f2 b2 f3 b3 f4 b4 f5 b5 f6 htp f7 f8
    rw [dSta] at b2 b4 b5
    rw [dSub] at b3
    refine CW_seq1 ?_
    refine CW_reg fun K_ hK => ?_
    simp [wk, vk, ek, ok, lk, er_oK, er_dRows, er_dSubs2, buildD, fillD, thr, f2, b2, f3, b3, f4, b4, f5, b5, f6, f7, f8]
    refine hK _ ?_
    refine CW_cond rfl (fun hct17 => ?_) (fun hct17 => ?_)
    · have hil : i < w.length := by simpa [wk, vk, ek, ok, f5, b5, f8] using hct17
      refine CW_sk ?_
      refine CW_seq1 ?_
      refine CW_blk fun K1 hn1 hx1 hr1 hj1 => ?_
      refine CW_seq1 ?_
      rcases (show d = true ∨ (d = false ∧ x.id < w[i].id) ∨ (d = false ∧ ¬ x.id < w[i].id) by cases d <;> simp <;> omega) with rfl | ⟨rfl, hgt⟩ | ⟨rfl, hgt⟩
      · have hd := hw
        refine CW_reg fun K_ hK => ?_
        simp [wk, vk, ek, ok, lk, er_oK, er_dRows, er_dSubs2, buildD, fillD, thr, f2, b2, f3, b3, f4, b4, f5, b5, f6, f7, f8, hil]
        refine hK _ ?_
        refine CW_no rfl ?_
        refine CW_sk ?_
        refine CW_reg1 fun K_ hK => ?_
        simp [wk, vk, ek, ok, lk, er_oK, er_dRows, er_dSubs2, buildD, fillD, thr, f2, b2, f3, b3, f4, b4, f5, b5, f6, f7, f8, hil, isAg_sub, clen_sub]
        refine AppW_use (app_S o w[i] g htp (by omega)) ?_
        simp [wk, vk, ek, ok, lk, er_oK, er_dRows, er_dSubs2, buildD, fillD, thr, f2, b2, f3, b3, f4, b4, f5, b5, f6, f7, f8, hil, isAg_sub, clen_sub]
        refine hK _ ?_
        refine hn1 _ ?_
        refine CW_reg1 fun K_ hK => ?_
        simp [wk, vk, ek, ok, lk, er_oK, er_dRows, er_dSubs2, buildD, fillD, thr, f2, b2, f3, b3, f4, b4, f5, b5, f6, f7, f8, hil]
        refine hK _ ?_
        refine hN0 (w.length - (i + 1)) _ (by omega) ⟨i + 1, _, o ++ [w[i]], true, rfl, by omega, ?_, by simp [upd, f2], by simp [upd2, b2, dSta], by simp [upd, f3], by simp [upd2, b3, dSub], by simp [upd, f4], by simp [upd2, b4, dSta], by simp [upd, f5], by simp [upd2, b5, dSta], by simp [upd]; rfl, fun _ => by simp [upd], by simp [upd, f7], ?_⟩
        · rw [← ho, List.drop_eq_getElem_cons hil]; simp
        · simp [upd]; rw [w64 (by omega) (by omega)]
      · have hgi : (x.id : Int) < (w[i].id : Int) := by omega
        refine CW_reg fun K_ hK => ?_
        simp [wk, vk, ek, ok, lk, er_oK, er_dRows, er_dSubs2, buildD, fillD, thr, f2, b2, f3, b3, f4, b4, f5, b5, f6, f7, f8, hil, hgi, hgt, dSub]
        refine hK _ ?_
        refine CW_yes rfl ?_
        refine CW_reg fun K_ hK => ?_
        simp [wk, vk, ek, ok, lk, er_oK, er_dRows, er_dSubs2, buildD, fillD, thr, f2, b2, f3, b3, f4, b4, f5, b5, f6, f7, f8, hil, hgi, hgt, dSub]
        refine AppW_use (app_S o x g htp (by omega)) ?_
        simp [wk, vk, ek, ok, lk, er_oK, er_dRows, er_dSubs2, buildD, fillD, thr, f2, b2, f3, b3, f4, b4, f5, b5, f6, f7, f8, hil, hgi, hgt, dSub]
        refine hK _ ?_
        refine CW_reg1 fun K_ hK => ?_
        simp [wk, vk, ek, ok, lk, er_oK, er_dRows, er_dSubs2, buildD, fillD, thr, f2, b2, f3, b3, f4, b4, f5, b5, f6, f7, f8, hil, hgi, hgt, dSub]
        refine hK _ ?_
        refine CW_reg1 fun K_ hK => ?_
        simp [wk, vk, ek, ok, lk, er_oK, er_dRows, er_dSubs2, buildD, fillD, thr, f2, b2, f3, b3, f4, b4, f5, b5, f6, f7, f8, hil, hgi, hgt, dSub, isAg_sub, clen_sub]
        refine AppW_use (app_S (o ++ [x]) w[i] _ (fun _ => by simp [upd]) (by simp; omega)) ?_
        simp [wk, vk, ek, ok, lk, er_oK, er_dRows, er_dSubs2, buildD, fillD, thr, f2, b2, f3, b3, f4, b4, f5, b5, f6, f7, f8, hil, hgi, hgt, dSub, isAg_sub, clen_sub]
        refine hK _ ?_
        refine hn1 _ ?_
        refine CW_reg1 fun K_ hK => ?_
        simp [wk, vk, ek, ok, lk, er_oK, er_dRows, er_dSubs2, buildD, fillD, thr, f2, b2, f3, b3, f4, b4, f5, b5, f6, f7, f8, hil, hgi, hgt, dSub]
        refine hK _ ?_
        refine hN0 (w.length - (i + 1)) _ (by omega) ⟨i + 1, _, o ++ [x] ++ [w[i]], true, rfl, by omega, ?_, by simp [upd, f2], by simp [upd2, b2, dSta], by simp [upd, f3], by simp [upd2, b3, dSub], by simp [upd, f4], by simp [upd2, b4, dSta], by simp [upd, f5], by simp [upd2, b5, dSta], by simp [upd]; rfl, fun _ => by simp [upd], by simp [upd, f7], ?_⟩
        · rw [← ho, List.drop_eq_getElem_cons hil]; simp [insS, hgt]
        · simp [upd]; rw [w64 (by omega) (by omega)]
      · have hgi : ¬ (x.id : Int) < (w[i].id : Int) := by omega
        refine CW_reg fun K_ hK => ?_
        simp [wk, vk, ek, ok, lk, er_oK, er_dRows, er_dSubs2, buildD, fillD, thr, f2, b2, f3, b3, f4, b4, f5, b5, f6, f7, f8, hil, hgi, hgt, dSub]
        refine hK _ ?_
        refine CW_no rfl ?_
        refine CW_sk ?_
        refine CW_reg1 fun K_ hK => ?_
        simp [wk, vk, ek, ok, lk, er_oK, er_dRows, er_dSubs2, buildD, fillD, thr, f2, b2, f3, b3, f4, b4, f5, b5, f6, f7, f8, hil, hgi, hgt, dSub, isAg_sub, clen_sub]
        refine AppW_use (app_S o w[i] g htp (by omega)) ?_
        simp [wk, vk, ek, ok, lk, er_oK, er_dRows, er_dSubs2, buildD, fillD, thr, f2, b2, f3, b3, f4, b4, f5, b5, f6, f7, f8, hil, hgi, hgt, dSub, isAg_sub, clen_sub]
        refine hK _ ?_
        refine hn1 _ ?_
        refine CW_reg1 fun K_ hK => ?_
        simp [wk, vk, ek, ok, lk, er_oK, er_dRows, er_dSubs2, buildD, fillD, thr, f2, b2, f3, b3, f4, b4, f5, b5, f6, f7, f8, hil, hgi, hgt, dSub]
        refine hK _ ?_
        refine hN0 (w.length - (i + 1)) _ (by omega) ⟨i + 1, _, o ++ [w[i]], false, rfl, by omega, ?_, by simp [upd, f2], by simp [upd2, b2, dSta], by simp [upd, f3], by simp [upd2, b3, dSub], by simp [upd, f4], by simp [upd2, b4, dSta], by simp [upd, f5], by simp [upd2, b5, dSta], by simp [upd]; rfl, fun _ => by simp [upd], by simp [upd, f7], ?_⟩
        · rw [← ho, List.drop_eq_getElem_cons hil]; simp [insS, hgt]
        · simp [upd]; rw [w64 (by omega) (by omega)]
    · have hil : ¬ i < w.length := by simpa [wk, vk, ek, ok, f5, b5, f8] using hct17
      rw [List.drop_of_length_le (by omega)] at ho
      refine CW_ex ?_
      refine hX0 _ ?_
      refine CW_seq1 ?_
      refine CW_reg fun K_ hK => ?_
      simp [wk, vk, ek, ok, lk, er_oK, er_dRows, er_dSubs2, buildD, fillD, thr, f2, b2, f3, b3, f4, b4, f5, b5, f6, f7]
      refine hK _ ?_
      refine CW_cond rfl (fun hct46 => ?_) (fun hct46 => ?_)
      · have hd : d = false := by simpa [wk, vk, ek, f7] using hct46
        subst hd
        have ho2 : o ++ [x] = insS x w := by simpa [insS] using ho
        rw [hw] at ho2
        refine CW_reg1 fun K_ hK => ?_
        simp [wk, vk, ek, ok, lk, er_oK, er_dRows, er_dSubs2, buildD, fillD, thr, f2, b2, f3, b3, f4, b4, f5, b5, f6, f7, ho2]
        refine AppW_use (app_S o x g htp (by omega)) ?_
        simp [wk, vk, ek, ok, lk, er_oK, er_dRows, er_dSubs2, buildD, fillD, thr, f2, b2, f3, b3, f4, b4, f5, b5, f6, f7, ho2]
        refine hK _ ?_
        refine CW_reg fun K_ hK => ?_
        simp [wk, vk, ek, ok, lk, er_oK, er_dRows, er_dSubs2, buildD, fillD, thr, f2, b2, f3, b3, f4, b4, f5, b5, f6, f7, ho2]
        refine hK _ ?_
        refine CW_reg fun K_ hK => ?_
        simp [wk, vk, ek, ok, lk, er_oK, er_dRows, er_dSubs2, buildD, fillD, thr, f2, b2, f3, b3, f4, b4, f5, b5, f6, f7, ho2]
        refine hK _ ?_
        refine CW_rt ?_
        refine ends_ret ?_
        simp [Tryz.results11, resD, resL, resD1, vk, wk, ok, lk, er_oK, er_dRows, er_dSubs2, buildD, fillD, ek, putS, dSta, f2, b2, f3, b3, f4, b4, f5, b5, f6, f7, ho2]
      · have hd : d = true := by simpa [wk, vk, ek, f7] using hct46
        subst hd
        have ho2 : o = insS x w := by simpa using ho
        rw [hw] at ho2
        refine CW_sk ?_
        refine CW_reg fun K_ hK => ?_
        simp [wk, vk, ek, ok, lk, er_oK, er_dRows, er_dSubs2, buildD, fillD, thr, f2, b2, f3, b3, f4, b4, f5, b5, f6, f7, ho2]
        refine hK _ ?_
        refine CW_reg fun K_ hK => ?_
        simp [wk, vk, ek, ok, lk, er_oK, er_dRows, er_dSubs2, buildD, fillD, thr, f2, b2, f3, b3, f4, b4, f5, b5, f6, f7, ho2]
        refine hK _ ?_
        refine CW_rt ?_
        refine ends_ret ?_
        simp [Tryz.results11, resD, resL, resD1, vk, wk, ok, lk, er_oK, er_dRows, er_dSubs2, buildD, fillD, ek, putS, dSta, f2, b2, f3, b3, f4, b4, f5, b5, f6, f7, ho2]
end Go.Proofs.YtobamidecbfgpaaGreatDoor
