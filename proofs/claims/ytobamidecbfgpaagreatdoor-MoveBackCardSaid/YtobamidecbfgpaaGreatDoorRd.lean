/- A state read back, over the shadow. No condition. -/
import Derived.Test.YtobamidecbfgpaaGreatDoorPm
import Derived.Test.YtobamidecbfgpaaGreatDoorFr
import Derived.Test.YtobamidecbfgpaaGreatDoorCm
namespace Go.Proofs.YtobamidecbfgpaaGreatDoor
open Go Go.Sh Go.RowKit
set_option linter.unusedVariables false
set_option linter.unusedSimpArgs false
set_option maxRecDepth 10000
variable {W : World}
def ptr18 (t : Nat) : Option Go.Sh.G.PK := if t = 2 ∨ t = 3 ∨ t = 5 ∨ t = 6 ∨ t = 10 then some (.box t) else if t = 44 ∨ t = 50 then some .rp else none
theorem read18 (L : Laid W) (m : Mix) (hm : MixOK m) (s : Sta) (hs : StaG s) (hsz : (rowsP m s).length ≤ 900) : Fc T W 18 [dRows (rowsP m s)] (.tu [dMix m, dSta s, .i .i64 0]) := by
  have q1 := front_key hm hs 109 (numsB [s.clock, s.next, s.last]) (by simp [frontK])
  have q2 := front_key hm hs 118 (numsB [m.src, m.to, m.cursor, backN m]) (by simp [frontK])
  have c25 := front25 (W := W) L m s (rowsP m s) (by omega) hm ⟨by have := hs.clock; omega, hs.next.2, hs.last⟩ q1.1 q1.2 q2.1 q2.2
  have hkl : (krs m s).length ≤ 900 := by rw [rowsP_krs hm, List.length_map] at hsz; exact hsz
  have c27 := ids27 (W := W) L (krs m s) hkl (krs_ok hm hs)
  have c30 : ∀ id : Nat, Fc T W 30 [dRows (rowsP m s), .i .i64 id] (dRows ((ofK id (krs m s)).map Kr.row)) := fun id => by rw [rowsP_krs hm]; exact of30 L (krs m s) (by omega) (krs_ok hm hs) id
  have c19 := rows19 (W := W) L m hm s hs
  have c32 := same32 (W := W) (rowsP m s) (by omega)
  have hl20 := hs.len
  rw [ids_krs hm hs, ← rowsP_krs hm] at c27
  obtain ⟨l, hl⟩ : ∃ l, l = rowsP m s := ⟨_, rfl⟩
  rw [← hl] at c25 c27 c30 c19 c32 ⊢
  obtain ⟨I, hI⟩ : ∃ I, I = s.subs.map (·.id) := ⟨_, rfl⟩
  have hIl : I.length = s.subs.length := by rw [hI, List.length_map]
  have hI20 : ¬ (20 : Int) < (I.length : Int) := by omega
  rw [← hI] at c27
  refine Go.Sh.G.Fc_intro (thr := thr) (ptr := ptr18) hmix Tryz.func18 rfl (by kernel_rfl) (by intro t ht; simp at ht; subst ht; rfl) (by simp [Tryz.ntmps18]) ?_
  refine CW_reg fun K_ hK => ?_
  simp [wk, vk, ek, ok, lk, er_dSubs2, buildD, fillD, thr, dMix, dSta]
  refine hK _ ?_
  refine CW_reg fun K_ hK => ?_
  simp [wk, vk, ek, ok, lk, er_dSubs2, buildD, fillD, thr, dMix, dSta]
  refine CallW_use (c25) ?_
  simp [wk, vk, ek, ok, lk, er_dSubs2, buildD, fillD, thr, dMix, dSta]
  refine hK _ ?_
  refine CW_seq1 ?_
  refine CW_reg fun K_ hK => ?_
  simp [wk, vk, ek, ok, lk, er_dSubs2, buildD, fillD, thr, dMix, dSta]
  refine CallW_use (right26 m hm) ?_
  simp [wk, vk, ek, ok, lk, er_dSubs2, buildD, fillD, thr, dMix, dSta]
  refine hK _ ?_
  refine CW_no rfl ?_
  refine CW_sk ?_
  refine CW_reg fun K_ hK => ?_
  simp [wk, vk, ek, ok, lk, er_dSubs2, buildD, fillD, thr, dMix, dSta]
  refine CallW_use (c27) ?_
  simp [wk, vk, ek, ok, lk, er_dSubs2, buildD, fillD, thr, dMix, dSta]
  refine hK _ ?_
  refine CW_seq1 ?_
  refine CW_reg fun K_ hK => ?_
  simp [wk, vk, ek, ok, lk, er_dSubs2, buildD, fillD, thr, dMix, dSta, hI20]
  refine hK _ ?_
  refine CW_no rfl ?_
  refine CW_sk ?_
  refine CW_seq1 ?_
  refine CW_reg fun K_ hK => ?_
  simp [wk, vk, ek, ok, lk, er_dSubs2, buildD, fillD, thr, dMix, dSta]
  refine hK _ ?_
  refine CW_for (fun j τ => ∃ (i g : Nat), j = s.subs.length - i ∧ i ≤ s.subs.length ∧ τ.fr 0 = dRows l ∧ τ.fr 2 = .p 2 0 0 ∧ τ.bx 2 0 = some (dMix ⟨0, 0, 0, false⟩) ∧ τ.fr 3 = .p 3 1 0 ∧ τ.bx 3 1 = some (dSta ⟨0, 0, 0, []⟩) ∧ τ.fr 5 = .p 5 2 0 ∧ τ.bx 5 2 = some (dMix m) ∧ τ.fr 6 = .p 6 3 0 ∧ τ.bx 6 3 = some (.ag [.i .i64 s.clock, .i .i64 s.next, .i .i64 s.last, oS g (s.subs.take i)]) ∧ (s.subs.take i ≠ [] → τ.tp 23 = some (g, (s.subs.take i).length)) ∧ τ.fr 8 = dInts I ∧ τ.fr 9 = .i .i64 i) (s.subs.length) ?_ ?_
  · exact ⟨0, 0, rfl, by omega, by simp [upd], by simp [upd], by simp [upd2, dMix], by simp [upd], by simp [upd2, dSta]; rfl, by simp [upd], by simp [upd2, dMix], by simp [upd], by simp [upd2]; rfl, fun h => absurd rfl h, by simp [upd], by simp [upd]⟩
  · rintro j ⟨fr, bx, tp, c⟩ ⟨i, g, rfl, hi, f0, f2, b2, f3, b3, f5, b5, f6, b6, htp, f8, f9⟩ K0 hN0 hX0 hR0 hJ0
    simp only at f0 f2 b2 f3 b3 f5 b5 f6 b6 htp f8 f9
    rw [dMix] at b2 b5
    rw [dSta] at b3
    refine CW_seq1 ?_
    refine CW_reg fun K_ hK => ?_
    simp [wk, vk, ek, ok, lk, er_dSubs2, buildD, fillD, thr, f0, f2, b2, f3, b3, f5, b5, f6, b6, f8, f9]
    refine hK _ ?_
    refine CW_cond rfl (fun hct37 => ?_) (fun hct37 => ?_)
    · have hil : i < s.subs.length := by have h : i < I.length := (by simpa [wk, vk, ek, ok, f8, f9] using hct37); omega
      refine CW_sk ?_
      refine CW_seq1 ?_
      refine CW_blk fun K1 hn1 hx1 hr1 hj1 => ?_
      refine CW_reg fun K_ hK => ?_
      have hx : indexD T 41 (dInts I) (.i .i64 (i : Nat)) = some (.rp (iN s.subs[i].id)) := by
        rw [ix_dI I .i64 i (by omega)]
        simp [hI]
      have hxm := List.getElem_mem hil
      have c28 := dec28 (W := W) L (routeV m s.subs[i].id) s.subs[i] (sub_ok hm hs hxm) (route_ok hm _) _ rfl (enc_rising hm hs hxm)
      have c30i := c30 s.subs[i].id
      rw [of_krs hm hs hxm, encK_row _ (route_ok hm _)] at c30i
      obtain ⟨x, hx'⟩ : ∃ x, x = s.subs[i] := ⟨_, rfl⟩
      rw [← hx'] at c28 c30i hx
      simp [wk, vk, ek, ok, lk, er_dSubs2, buildD, fillD, thr, f0, f2, b2, f3, b3, f5, b5, f6, b6, f8, f9, hil, hx, isAg_sub, clen_sub, solid_sub]
      refine CallW_use (route29 m x.id) ?_
      simp [wk, vk, ek, ok, lk, er_dSubs2, buildD, fillD, thr, f0, f2, b2, f3, b3, f5, b5, f6, b6, f8, f9, hil, hx, isAg_sub, clen_sub, solid_sub]
      refine CallW_use (c30i) ?_
      simp [wk, vk, ek, ok, lk, er_dSubs2, buildD, fillD, thr, f0, f2, b2, f3, b3, f5, b5, f6, b6, f8, f9, hil, hx, isAg_sub, clen_sub, solid_sub]
      refine CallW_use (c28) ?_
      simp [wk, vk, ek, ok, lk, er_dSubs2, buildD, fillD, thr, f0, f2, b2, f3, b3, f5, b5, f6, b6, f8, f9, hil, hx, isAg_sub, clen_sub, solid_sub]
      refine hK _ ?_
      refine CW_seq1 ?_
      refine CW_reg fun K_ hK => ?_
      simp [wk, vk, ek, ok, lk, er_dSubs2, buildD, fillD, thr, f0, f2, b2, f3, b3, f5, b5, f6, b6, f8, f9, hil]
      refine hK _ ?_
      refine CW_no rfl ?_
      refine CW_sk ?_
      refine CW_reg1 fun K_ hK => ?_
      simp [wk, vk, ek, ok, lk, er_dSubs2, buildD, fillD, thr, f0, f2, b2, f3, b3, f5, b5, f6, b6, f8, f9, hil, dSub, isAg_sub, clen_sub]
      refine AppW_use (app_S (s.subs.take i) x g htp (by rw [List.length_take]; omega)) ?_
      simp [wk, vk, ek, ok, lk, er_dSubs2, buildD, fillD, thr, f0, f2, b2, f3, b3, f5, b5, f6, b6, f8, f9, hil, dSub, isAg_sub, clen_sub]
      refine hK _ ?_
      refine hn1 _ ?_
      refine CW_reg1 fun K_ hK => ?_
      simp [wk, vk, ek, ok, lk, er_dSubs2, buildD, fillD, thr, f0, f2, b2, f3, b3, f5, b5, f6, b6, f8, f9, hil]
      refine hK _ ?_
      refine hN0 (s.subs.length - (i + 1)) _ (by omega) ⟨i + 1, c + 1, rfl, by omega, by simp [upd, f0], by simp [upd, f2], by simp [upd2, b2, dMix], by simp [upd, f3], by simp [upd2, b3, dSta], by simp [upd, f5], by simp [upd2, b5, dMix], by simp [upd, f6], by rw [List.take_succ_eq_append_getElem hil, ← hx']; simp [upd2], fun _ => by rw [List.take_succ_eq_append_getElem hil, ← hx']; simp [upd], by simp [upd, f8], ?_⟩
      simp [upd, f9]; rw [w64 (by omega) (by omega)]
    · have hil : ¬ i < s.subs.length := by have h : ¬ i < I.length := (by simpa [wk, vk, ek, ok, f8, f9] using hct37); omega
      rw [List.take_of_length_le (by omega)] at b6
      refine CW_ex ?_
      refine hX0 _ ?_
      refine CW_seq1 ?_
      refine CW_reg fun K_ hK => ?_
      simp [wk, vk, ek, ok, lk, er_dSubs2, buildD, fillD, thr, f0, f2, b2, f3, b3, f5, b5, f6, b6, f8, f9]
      refine CallW_use (right31 s hs) ?_
      simp [wk, vk, ek, ok, lk, er_dSubs2, buildD, fillD, thr, f0, f2, b2, f3, b3, f5, b5, f6, b6, f8, f9]
      refine CallW_use (c19) ?_
      simp [wk, vk, ek, ok, lk, er_dSubs2, buildD, fillD, thr, f0, f2, b2, f3, b3, f5, b5, f6, b6, f8, f9]
      refine CallW_use (c32) ?_
      simp [wk, vk, ek, ok, lk, er_dSubs2, buildD, fillD, thr, f0, f2, b2, f3, b3, f5, b5, f6, b6, f8, f9]
      refine hK _ ?_
      refine CW_no rfl ?_
      refine CW_sk ?_
      refine CW_reg fun K_ hK => ?_
      simp [wk, vk, ek, ok, lk, er_dSubs2, buildD, fillD, thr, f0, f2, b2, f3, b3, f5, b5, f6, b6, f8, f9]
      refine hK _ ?_
      refine CW_rt ?_
      refine ends_ret ?_
      simp [Tryz.results18, resD, resL, resD1, vk, wk, ok, lk, er_dSubs2, buildD, fillD, ek, dMix, dSta, f0, f2, b2, f3, b3, f5, b5, f6, b6, f8, f9]
theorem kept7 (L : Laid W) (m : Mix) (hm : MixOK m) (s : Sta) (hs : StaG s) (hsz : (rowsP m s).length ≤ 900) : Fc T W 7 [dMix m, dSta s] (.b true) := by
  have hsub : ∀ x ∈ s.subs, x.acks.length ≤ 1000 ∧ x.queue.length ≤ 1000 := fun x hx => by have h := sub_ok hm hs hx; have h1 := h.acks; have h2 := h.queue; omega
  have hl20 := hs.len
  refine Fc_intro (thr := thr) hmix Tryz.func7 rfl (by kernel_rfl) (by simp [Tryz.ntmps7]) ?_
  refine CW_reg fun K_ hK => ?_
  simp [wk, vk, ek, ok, lk, er_dSubs2, buildD, fillD, thr, dMix, dSta]
  refine hK _ ?_
  refine CW_reg fun K_ hK => ?_
  simp [wk, vk, ek, ok, lk, er_dSubs2, buildD, fillD, thr, dMix, dSta]
  refine CallW_use (rows19 L m hm s hs) ?_
  simp [wk, vk, ek, ok, lk, er_dSubs2, buildD, fillD, thr, dMix, dSta]
  refine CallW_use (read18 L m hm s hs hsz) ?_
  simp [wk, vk, ek, ok, lk, er_dSubs2, buildD, fillD, thr, dMix, dSta]
  refine hK _ ?_
  refine CW_reg fun K_ hK => ?_
  simp [wk, vk, ek, ok, lk, er_dSubs2, buildD, fillD, thr, dMix, dSta, eql28]
  refine CallW_use (same20 s (by omega) hsub) ?_
  simp [wk, vk, ek, ok, lk, er_dSubs2, buildD, fillD, thr, dMix, dSta, eql28]
  refine hK _ ?_
  refine CW_rt ?_
  refine ends_ret ?_
  simp [Tryz.results7, resD, resL, resD1, vk, wk, ok, lk, er_dSubs2, buildD, fillD, ek, dMix, dSta]
end Go.Proofs.YtobamidecbfgpaaGreatDoor
