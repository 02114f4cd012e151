/- The law of states: a state, over the shadow. No condition. -/
import Derived.Test.YtobamidecbfgpaaGreatDoorSb
namespace Go.Proofs.YtobamidecbfgpaaGreatDoor
open Go Go.Sh Go.RowKit
set_option linter.unusedVariables false
set_option linter.unusedSimpArgs false
set_option maxRecDepth 10000
variable {W : World}
def pieceC (c : Str) (i : Nat) : Str := (c.take (min c.length (27 + 24 * i))).drop (min c.length (3 + 24 * i))
def goS (c : Str) : Nat → Sta → Sta
  | 0, s => s
  | n + 1, s => if c.length ≤ 3 + 24 * (6 - (n + 1)) then s
    else goS c n (putS s (subC (pieceC c (6 - (n + 1))) (1 + gC c (3 + 24 * (6 - (n + 1))) % s.last) s.clock s.next))
def sta0 (c : Str) : Sta := ⟨gC c 0 * 7, 1 + gC c 1 / 4, gC c 2 % 8, []⟩
def staC (c : Str) : Sta := if (sta0 c).last = 0 then sta0 c else goS c 6 (sta0 c)
theorem putS_len (s : Sta) (x : Sub) : (putS s x).subs.length ≤ s.subs.length + 1 := by
  show (insS x (woS x.id s.subs)).length ≤ _
  rw [insS_len]
  have := woS_len x.id s.subs
  omega
theorem state4 (d : D) (cs : Str) (hc : IsC d cs) (hl : cs.length ≤ 9223372036854775807) : Fc T W 4 [d] (dSta (staC cs)) := by
  obtain ⟨g0, hg0⟩ : ∃ g, g = gC cs 0 := ⟨_, rfl⟩
  obtain ⟨g1, hg1⟩ : ∃ g, g = gC cs 1 := ⟨_, rfl⟩
  obtain ⟨g2, hg2⟩ : ∃ g, g = gC cs 2 := ⟨_, rfl⟩
  have k0 : Fc T W 10 [d, .i .i64 0] (.i .i64 g0) := by rw [hg0]; exact g10 d cs hc 0
  have k1 : Fc T W 10 [d, .i .i64 1] (.i .i64 g1) := by rw [hg1]; exact g10 d cs hc 1
  have k2 : Fc T W 10 [d, .i .i64 2] (.i .i64 g2) := by rw [hg2]; exact g10 d cs hc 2
  have l0 : g0 ≤ 255 := hg0 ▸ gC_le cs 0
  have l1 : g1 ≤ 255 := hg1 ▸ gC_le cs 1
  have l2 : g2 ≤ 255 := hg2 ▸ gC_le cs 2
  obtain ⟨ck, hck⟩ : ∃ m, m = g0 * 7 := ⟨_, rfl⟩
  obtain ⟨q1, hq1⟩ : ∃ m, m = g1 / 4 := ⟨_, rfl⟩
  obtain ⟨nx, hnx⟩ : ∃ m, m = 1 + q1 := ⟨_, rfl⟩
  obtain ⟨la, hla⟩ : ∃ m, m = g2 % 8 := ⟨_, rfl⟩
  have e1 : IntKind.i64.wrap ((g0 : Int) * 7) = (ck : Int) := by rw [w64 (by omega) (by omega)]; omega
  have e2 : (g1 : Int).tdiv 4 = (q1 : Int) := by rw [hq1]; rfl
  have e2b : IntKind.i64.wrap (q1 : Int) = (q1 : Int) := w64 (by omega) (by omega)
  have e3 : IntKind.i64.wrap (1 + (q1 : Int)) = (nx : Int) := by rw [w64 (by omega) (by omega)]; omega
  have e4 : (g2 : Int).tmod 8 = (la : Int) := by rw [hla]; rfl
  have hs0 : sta0 cs = ⟨ck, nx, la, []⟩ := by rw [hck, hnx, hla, hq1, hg0, hg1, hg2]; rfl
  obtain ⟨R, hR⟩ : ∃ R, R = staC cs := ⟨_, rfl⟩
  rw [← hR]
  rw [staC, hs0] at hR
  have hx : ∀ k, k < cs.length → indexD T 22 d (.i .i64 (k : Nat)) = some (.rp (.i .u8 (gC cs k : Nat))) := by
    intro k hk
    rw [hc.ix k hk]
    simp [gC, List.getD, hk, byteD]
  refine Fc_intro (thr := thr) hmix Tryz.func4 rfl (by kernel_rfl) (by simp [Tryz.ntmps4]) ?_
  refine CW_reg fun K_ hK => ?_
  simp [wk, vk, ek, ok, lk, er_dSubs2, buildD, fillD, thr, hc.len, hc.er, dSta]
  refine hK _ ?_
  refine CW_reg fun K_ hK => ?_
  simp [wk, vk, ek, ok, lk, er_dSubs2, buildD, fillD, thr, hc.len, hc.er, dSta, e1, e2, e2b, e3, e4]
  refine CallW_use (k0) ?_
  simp [wk, vk, ek, ok, lk, er_dSubs2, buildD, fillD, thr, hc.len, hc.er, dSta, e1, e2, e2b, e3, e4]
  refine CallW_use (k1) ?_
  simp [wk, vk, ek, ok, lk, er_dSubs2, buildD, fillD, thr, hc.len, hc.er, dSta, e1, e2, e2b, e3, e4]
  refine CallW_use (k2) ?_
  simp [wk, vk, ek, ok, lk, er_dSubs2, buildD, fillD, thr, hc.len, hc.er, dSta, e1, e2, e2b, e3, e4]
  refine hK _ ?_
  refine CW_seq1 ?_
  refine CW_reg fun K_ hK => ?_
  simp [wk, vk, ek, ok, lk, er_dSubs2, buildD, fillD, thr, hc.len, hc.er, dSta]
  refine hK _ ?_
  refine CW_for (fun n τ => ∃ (s : Sta), τ.fr 0 = d ∧ τ.fr 2 = .p 2 0 0 ∧ τ.bx 2 0 = some (dSta ⟨0, 0, 0, []⟩) ∧ τ.fr 3 = .p 3 1 0 ∧ τ.bx 3 1 = some (dSta s) ∧ τ.fr 4 = .i .i64 ((6 - n : Nat) : Int) ∧ n ≤ 6 ∧ s.clock = ck ∧ s.next = nx ∧ s.last = la ∧ s.subs.length ≤ 6 - n ∧ (if la = 0 then s else goS cs n s) = R) (6) ?_ ?_
  · exact ⟨⟨ck, nx, la, []⟩, by simp [upd], by simp [upd], by simp [upd2, dSta]; rfl, by simp [upd], by simp [upd2, dSta]; rfl, by simp [upd], by omega, rfl, rfl, rfl, by simp, hR.symm⟩
  · rintro n ⟨fr, bx, tp, c⟩ ⟨s, f0, f2, b2, f3, b3, f4, hn6, hsc, hsn, hsl', hsu, hgo⟩ K0 hN0 hX0 hR0 hJ0
    simp only at f0 f2 b2 f3 b3 f4
    rw [dSta] at b2 b3
    obtain ⟨i, hi⟩ : ∃ i, i = 6 - n := ⟨_, rfl⟩
    rw [← hi] at f4
    refine CW_seq1 ?_
    rcases (show n = 0 ∨ (0 < n ∧ la = 0) ∨ (0 < n ∧ 0 < la ∧ cs.length ≤ 3 + 24 * i) ∨ (0 < n ∧ 0 < la ∧ 3 + 24 * i < cs.length) by omega) with h1 | ⟨h1, h2⟩ | ⟨h1, h2, h3⟩ | ⟨h1, h2, h3⟩
    · have hi6 : ¬ (i : Int) < 6 := by omega
      have hfin : s = R := by rw [← hgo, h1]; split <;> rfl
      refine CW_reg fun K_ hK => ?_
      simp [wk, vk, ek, ok, lk, er_dSubs2, buildD, fillD, thr, hc.len, hc.er, dSta, f0, f2, b2, f3, b3, f4, hi6]
      refine hK _ ?_
      refine CW_no rfl ?_
      refine CW_ex ?_
      refine hX0 _ ?_
      refine CW_reg fun K_ hK => ?_
      simp [wk, vk, ek, ok, lk, er_dSubs2, buildD, fillD, thr, hfin, f0, f2, b2, f3, b3, f4]
      refine hK _ ?_
      refine CW_rt ?_
      refine ends_ret ?_
      simp [Tryz.results4, resD, resL, resD1, vk, wk, ok, lk, er_dSubs2, buildD, fillD, ek, dSta, hfin, f0, f2, b2, f3, b3, f4]
    · have hi6 : (i : Int) < 6 := by omega
      have hl0 : ¬ 0 < s.last := by omega
      have hfin : s = R := by rw [← hgo, if_pos h2]
      refine CW_reg fun K_ hK => ?_
      simp [wk, vk, ek, ok, lk, er_dSubs2, buildD, fillD, thr, hc.len, hc.er, dSta, f0, f2, b2, f3, b3, f4, hi6, hl0]
      refine hK _ ?_
      refine CW_no rfl ?_
      refine CW_ex ?_
      refine hX0 _ ?_
      refine CW_reg fun K_ hK => ?_
      simp [wk, vk, ek, ok, lk, er_dSubs2, buildD, fillD, thr, hfin, f0, f2, b2, f3, b3, f4]
      refine hK _ ?_
      refine CW_rt ?_
      refine ends_ret ?_
      simp [Tryz.results4, resD, resL, resD1, vk, wk, ok, lk, er_dSubs2, buildD, fillD, ek, dSta, hfin, f0, f2, b2, f3, b3, f4]
    · have hi6 : (i : Int) < 6 := by omega
      have hl0 : 0 < s.last := by omega
      obtain ⟨m, rfl⟩ : ∃ m, n = m + 1 := ⟨n - 1, by omega⟩
      obtain ⟨z, hz⟩ : ∃ z, z = 24 * i := ⟨_, rfl⟩
      have e5 : IntKind.i64.wrap (24 * (i : Int)) = (z : Int) := by rw [w64 (by omega) (by omega)]; omega
      obtain ⟨x3, hx3⟩ : ∃ z', z' = 3 + z := ⟨_, rfl⟩
      obtain ⟨x27, hx27⟩ : ∃ z', z' = 27 + z := ⟨_, rfl⟩
      have e6 : IntKind.i64.wrap (3 + (z : Int)) = (x3 : Int) := by rw [w64 (by omega) (by omega)]; omega
      have e7 : IntKind.i64.wrap (27 + (z : Int)) = (x27 : Int) := by rw [w64 (by omega) (by omega)]; omega
      
      have hm3 : ¬ x3 < cs.length := by omega
      have hm27 : ¬ x27 < cs.length := by omega
      have hfin : s = R := by rw [← hgo, if_neg (by omega), goS, if_pos (by omega)]
      refine CW_reg fun K_ hK => ?_
      simp [wk, vk, ek, ok, lk, er_dSubs2, buildD, fillD, thr, hc.len, hc.er, dSta, f0, f2, b2, f3, b3, f4, hi6, hl0, e5, e6, e7, hm3, hm27]
      refine hK _ ?_
      refine CW_yes rfl ?_
      refine CW_sk ?_
      refine CW_seq1 ?_
      refine CW_blk fun K1 hn1 hx1 hr1 hj1 => ?_
      refine CW_reg fun K_ hK => ?_
      simp [wk, vk, ek, ok, lk, er_dSubs2, buildD, fillD, thr, hc.len, hc.er, dSta, f0, f2, b2, f3, b3, f4, hi6, hl0, e5, e6, e7, hm3, hm27]
      refine hK _ ?_
      refine CW_reg fun K_ hK => ?_
      simp [wk, vk, ek, ok, lk, er_dSubs2, buildD, fillD, thr, hc.len, hc.er, dSta, f0, f2, b2, f3, b3, f4, hi6, hl0, e5, e6, e7, hm3, hm27]
      refine hK _ ?_
      refine CW_seq1 ?_
      refine CW_reg fun K_ hK => ?_
      simp [wk, vk, ek, ok, lk, er_dSubs2, buildD, fillD, thr, hc.len, hc.er, dSta, f0, f2, b2, f3, b3, f4, hi6, hl0, e5, e6, e7, hm3, hm27]
      refine hK _ ?_
      refine CW_yes rfl ?_
      refine CW_ex ?_
      refine hj1 0 _ (by decide) ?_
      refine hX0 _ ?_
      refine CW_reg fun K_ hK => ?_
      simp [wk, vk, ek, ok, lk, er_dSubs2, buildD, fillD, thr, hfin, f0, f2, b2, f3, b3, f4]
      refine hK _ ?_
      refine CW_rt ?_
      refine ends_ret ?_
      simp [Tryz.results4, resD, resL, resD1, vk, wk, ok, lk, er_dSubs2, buildD, fillD, ek, dSta, hfin, f0, f2, b2, f3, b3, f4]
    · have hi6 : (i : Int) < 6 := by omega
      have hl0 : 0 < s.last := by omega
      obtain ⟨m, rfl⟩ : ∃ m, n = m + 1 := ⟨n - 1, by omega⟩
      obtain ⟨z, hz⟩ : ∃ z, z = 24 * i := ⟨_, rfl⟩
      have e5 : IntKind.i64.wrap (24 * (i : Int)) = (z : Int) := by rw [w64 (by omega) (by omega)]; omega
      obtain ⟨x3, hx3⟩ : ∃ z', z' = 3 + z := ⟨_, rfl⟩
      obtain ⟨x27, hx27⟩ : ∃ z', z' = 27 + z := ⟨_, rfl⟩
      have e6 : IntKind.i64.wrap (3 + (z : Int)) = (x3 : Int) := by rw [w64 (by omega) (by omega)]; omega
      have e7 : IntKind.i64.wrap (27 + (z : Int)) = (x27 : Int) := by rw [w64 (by omega) (by omega)]; omega
      
      have hm3 : x3 < cs.length := by omega
      obtain ⟨y, hy, hy3, hyl, hym⟩ : ∃ y : Nat, (if x27 < cs.length then (x27 : Int) else (cs.length : Int)) = (y : Int) ∧ x3 < y ∧ y ≤ cs.length ∧ y = min cs.length (27 + 24 * i) := by
        by_cases h : x27 < cs.length
        · exact ⟨x27, by rw [if_pos h], by omega, by omega, by omega⟩
        · exact ⟨cs.length, by rw [if_neg h], by omega, by omega, by omega⟩
      have hxy : ((x3 : Int) == (y : Int)) = false := by rw [beq_eq_false_iff_ne]; omega
      have hxb := hx x3 hm3
      obtain ⟨b, hb⟩ : ∃ b, b = gC cs x3 := ⟨_, rfl⟩
      have hbl : b ≤ 255 := hb ▸ gC_le cs x3
      rw [← hb] at hxb
      have e8 : IntKind.i64.wrap (b : Int) = (b : Int) := w64 (by omega) (by omega)
      obtain ⟨v, hv⟩ : ∃ v, v = b % s.last := ⟨_, rfl⟩
      have hvl : v < s.last := by rw [hv]; exact Nat.mod_lt _ hl0
      have e9 : (b : Int).tmod (s.last : Int) = (v : Int) := by rw [hv]; rfl
      obtain ⟨k, hk⟩ : ∃ k, k = 1 + v := ⟨_, rfl⟩
      have e10 : IntKind.i64.wrap (1 + (v : Int)) = (k : Int) := by rw [w64 (by omega) (by omega)]; omega
      have hl1 : ¬ (s.last : Int) = 0 := by omega
      have hl2 : ¬ s.last = 0 := by omega
      have hsl := hc.sl x3 y hy3 hyl
      obtain ⟨p, hp⟩ : ∃ p, p = pieceC cs i := ⟨_, rfl⟩
      have hpe : (cs.take y).drop x3 = p := by rw [hp, pieceC, ← hym, show min cs.length (3 + 24 * i) = x3 by omega]
      rw [hpe] at hsl
      have hpl : p.length ≤ 24 := by rw [← hpe]; simp; omega
      rw [if_neg (by omega), goS, if_neg (by omega), ← hi, ← hp, show 3 + 24 * i = x3 by omega, ← hb, ← hv, ← hk] at hgo
      have hcall := sub12 (W := W) (.sl 1 (p.map byteD) .shut) p (isC_sl p) k s.clock s.next hpl (by omega) (by omega) (by omega)
      obtain ⟨x, hxx⟩ : ∃ x, x = subC p k s.clock s.next := ⟨_, rfl⟩
      rw [← hxx] at hcall hgo
      refine CW_reg fun K_ hK => ?_
      simp [wk, vk, ek, ok, lk, er_dSubs2, buildD, fillD, thr, hc.len, hc.er, dSta, f0, f2, b2, f3, b3, f4, hi6, hl0, e5, e6, e7, hm3, hy, hxy, hxb, e8, e9, e10, hl1, hl2, hsl]
      refine hK _ ?_
      refine CW_yes rfl ?_
      refine CW_sk ?_
      refine CW_seq1 ?_
      refine CW_blk fun K1 hn1 hx1 hr1 hj1 => ?_
      refine CW_reg fun K_ hK => ?_
      simp [wk, vk, ek, ok, lk, er_dSubs2, buildD, fillD, thr, hc.len, hc.er, dSta, f0, f2, b2, f3, b3, f4, hi6, hl0, e5, e6, e7, hm3, hy, hxy, hxb, e8, e9, e10, hl1, hl2, hsl]
      refine hK _ ?_
      refine CW_reg fun K_ hK => ?_
      simp [wk, vk, ek, ok, lk, er_dSubs2, buildD, fillD, thr, hc.len, hc.er, dSta, f0, f2, b2, f3, b3, f4, hi6, hl0, e5, e6, e7, hm3, hy, hxy, hxb, e8, e9, e10, hl1, hl2, hsl]
      refine hK _ ?_
      refine CW_seq1 ?_
      refine CW_reg fun K_ hK => ?_
      simp [wk, vk, ek, ok, lk, er_dSubs2, buildD, fillD, thr, hc.len, hc.er, dSta, f0, f2, b2, f3, b3, f4, hi6, hl0, e5, e6, e7, hm3, hy, hxy, hxb, e8, e9, e10, hl1, hl2, hsl]
      refine hK _ ?_
      refine CW_no rfl ?_
      refine CW_sk ?_
      refine CW_reg fun K_ hK => ?_
      simp [wk, vk, ek, ok, lk, er_dSubs2, buildD, fillD, thr, hc.len, hc.er, dSta, f0, f2, b2, f3, b3, f4, hi6, hl0, e5, e6, e7, hm3, hy, hxy, hxb, e8, e9, e10, hl1, hl2, hsl]
      refine hK _ ?_
      refine CW_reg1 fun K_ hK => ?_
      simp [wk, vk, ek, ok, lk, er_dSubs2, buildD, fillD, thr, hc.len, hc.er, dSta, f0, f2, b2, f3, b3, f4, hi6, hl0, e5, e6, e7, hm3, hy, hxy, hxb, e8, e9, e10, hl1, hl2, hsl]
      refine CallW_use (hcall) ?_
      simp [wk, vk, ek, ok, lk, er_dSubs2, buildD, fillD, thr, hc.len, hc.er, dSta, f0, f2, b2, f3, b3, f4, hi6, hl0, e5, e6, e7, hm3, hy, hxy, hxb, e8, e9, e10, hl1, hl2, hsl]
      refine CallW_use (put11 s x (by omega)) ?_
      simp [wk, vk, ek, ok, lk, er_dSubs2, buildD, fillD, thr, hc.len, hc.er, dSta, f0, f2, b2, f3, b3, f4, hi6, hl0, e5, e6, e7, hm3, hy, hxy, hxb, e8, e9, e10, hl1, hl2, hsl]
      refine hK _ ?_
      refine hn1 _ ?_
      refine CW_reg1 fun K_ hK => ?_
      simp [wk, vk, ek, ok, lk, er_dSubs2, buildD, fillD, thr, hc.len, hc.er, dSta, f0, f2, b2, f3, b3, f4, hi6, hl0, e5, e6, e7, hm3, hy, hxy, hxb, e8, e9, e10, hl1, hl2, hsl]
      refine hK _ ?_
      refine hN0 m _ (by omega) ⟨putS s x, by simp [upd, f0], by simp [upd, f2], by simp [upd2, b2, dSta], by simp [upd, f3], by simp [upd2, dSta], ?_, by omega, hsc, hsn, hsl', by have := putS_len s x; omega, by rw [if_neg (by omega)]; exact hgo⟩
      simp [upd, f4]; rw [w64 (by omega) (by omega)]; omega
end Go.Proofs.YtobamidecbfgpaaGreatDoor
