/- There and back: the law's walk, over the shadow. No condition. -/
import Derived.Test.YtobamidecbfgpaaGreatDoorKn
namespace Go.Proofs.YtobamidecbfgpaaGreatDoor
open Go Go.Sh Go.RowKit
set_option linter.unusedVariables false
set_option linter.unusedSimpArgs false
set_option maxRecDepth 10000
variable {W : World}
theorem back3 (L : Laid W) (d : D) (cs : Str) (hc : IsC d cs) (hl : cs.length ≤ 9223372036854775807) (v n : Nat) (hv : v ≤ 255) (hn : n ≤ 255) : Fc T W 3 [d, .i .u8 v, .i .u8 n] (.b true) := by
  obtain ⟨s, hs⟩ : ∃ s, s = staC cs := ⟨_, rfl⟩
  have hG : StaG s := hs ▸ staC_good cs
  have hz : ∀ m, (rowsP m s).length ≤ 900 := fun m => hs ▸ rowsP_len m cs
  have c4 : Fc T W 4 [d] (dSta s) := hs ▸ state4 d cs hc hl
  rw [dSta] at c4
  obtain ⟨v3, hv3⟩ : ∃ x, x = v % 3 := ⟨_, rfl⟩
  have e1 : (v : Int).tmod 3 = (v3 : Int) := by rw [hv3]; rfl
  have e2 : IntKind.i64.wrap (v3 : Int) = (v3 : Int) := w64 (by omega) (by omega)
  obtain ⟨src, hsrc⟩ : ∃ x, x = 1 + v3 := ⟨_, rfl⟩
  have e3 : IntKind.i64.wrap (1 + (v3 : Int)) = (src : Int) := by rw [w64 (by omega) (by omega)]; omega
  have hsr : 1 ≤ src ∧ src ≤ 3 := by omega
  obtain ⟨s3, hs3⟩ : ∃ x, x = src % 3 := ⟨_, rfl⟩
  have e4 : (src : Int).tmod 3 = (s3 : Int) := by rw [hs3]; rfl
  obtain ⟨w, hw⟩ : ∃ x, x = s3 + 1 := ⟨_, rfl⟩
  have e5 : IntKind.i64.wrap ((s3 : Int) + 1) = (w : Int) := by rw [w64 (by omega) (by omega)]; omega
  have hwr : 1 ≤ w ∧ w ≤ 3 ∧ src ≠ w := by omega
  obtain ⟨to, hto⟩ : ∃ x, x = toB src w := ⟨_, rfl⟩
  have htr : (1 ≤ to ∧ to ≤ 3) ∧ (src = to + 1 ∨ to = src + 1) := by
    rw [hto]
    unfold toB
    split <;> omega
  have c5 := begin5 (W := W) src w hsr ⟨hwr.1, hwr.2.1⟩ hwr.2.2
  rw [← hto, dMix, dMix] at c5
  have hf0 : Fwd src to ⟨src, to, 0, false⟩ := ⟨⟨hsr, htr.1, by simp, .inr htr.2⟩, .inr ⟨rfl, rfl, rfl⟩⟩
  have qst : ((src : Int) == (to : Int)) = false := by rw [beq_eq_false_iff_ne]; omega
  obtain ⟨n9, hn9⟩ : ∃ x, x = n % 9 := ⟨_, rfl⟩
  have e6 : (n : Int).tmod 9 = (n9 : Int) := by rw [hn9]; rfl
  have e7 : IntKind.i64.wrap (n9 : Int) = (n9 : Int) := w64 (by omega) (by omega)
  have hn8 : n9 ≤ 8 := by omega
  refine Fc_intro (thr := thr) hmix Tryz.func3 rfl (by kernel_rfl) (by simp [Tryz.ntmps3]) ?_
  refine CW_reg fun K_ hK => ?_
  simp [wk, vk, ek, ok, lk, er_dSubs2, buildD, fillD, eql28, thr, hc.er, dMix, dSta]
  refine hK _ ?_
  refine CW_reg fun K_ hK => ?_
  simp [wk, vk, ek, ok, lk, er_dSubs2, buildD, fillD, eql28, thr, hc.er, dMix, dSta]
  refine CallW_use (c4) ?_
  simp [wk, vk, ek, ok, lk, er_dSubs2, buildD, fillD, eql28, thr, hc.er, dMix, dSta]
  refine hK _ ?_
  refine CW_reg fun K_ hK => ?_
  simp [wk, vk, ek, ok, lk, er_dSubs2, buildD, fillD, eql28, thr, hc.er, dMix, dSta, e1, e2, e3]
  refine hK _ ?_
  refine CW_reg fun K_ hK => ?_
  simp [wk, vk, ek, ok, lk, er_dSubs2, buildD, fillD, eql28, thr, hc.er, dMix, dSta, e4, e5]
  refine CallW_use (c5) ?_
  simp [wk, vk, ek, ok, lk, er_dSubs2, buildD, fillD, eql28, thr, hc.er, dMix, dSta, e4, e5]
  refine hK _ ?_
  refine CW_seq1 ?_
  refine CW_reg fun K_ hK => ?_
  simp [wk, vk, ek, ok, lk, er_dSubs2, buildD, fillD, eql28, thr, hc.er, dMix, dSta, qst]
  refine hK _ ?_
  refine CW_no rfl ?_
  refine CW_sk ?_
  refine CW_reg fun K_ hK => ?_
  simp [wk, vk, ek, ok, lk, er_dSubs2, buildD, fillD, eql28, thr, hc.er, dMix, dSta]
  refine hK _ ?_
  refine CW_join (fun τ => ∃ m : Mix, Fwd src to m ∧ τ.fr 2 = .i .u8 n ∧ τ.fr 7 = .p 7 0 0 ∧ τ.bx 7 0 = some (dSta s) ∧ τ.fr 8 = .i .i64 src ∧ τ.fr 9 = .p 9 1 0 ∧ τ.bx 9 1 = some (dMix m) ∧ τ.fr 11 = .i .i64 to) (fun Kj7 hKn7 hKx7 => ?_) ?_
  · refine CW_reg fun K_ hK => ?_
    simp [wk, vk, ek, ok, lk, er_dSubs2, buildD, fillD, eql28, thr, hc.er, dMix, dSta]
    refine hK _ ?_
    refine CW_for (fun j τ => ∃ (i : Nat) (m : Mix), j = 9 - i ∧ i ≤ 9 ∧ Fwd src to m ∧ τ.fr 2 = .i .u8 n ∧ τ.fr 7 = .p 7 0 0 ∧ τ.bx 7 0 = some (dSta s) ∧ τ.fr 8 = .i .i64 src ∧ τ.fr 9 = .p 9 1 0 ∧ τ.bx 9 1 = some (dMix m) ∧ τ.fr 11 = .i .i64 to ∧ τ.fr 12 = .i .i64 i) (9) ?_ ?_
    · exact ⟨0, ⟨src, to, 0, false⟩, rfl, by omega, hf0, by simp [upd], by simp [upd], by simp [upd2, dSta], by simp [upd], by simp [upd], by simp [upd2, dMix], by simp [upd], by simp [upd]⟩
    · rintro j ⟨fr, bx, tp, c⟩ ⟨i, m, rfl, hi, hfw, f2, f7, b7, f8, f9, b9, f11, f12⟩ K0 hN0 hX0 hR0 hJ0
      simp only at f2 f7 b7 f8 f9 b9 f11 f12
      rw [dMix] at b9
      rw [dSta] at b7
      refine CW_seq1 ?_
      rcases (show n9 ≤ i ∨ (i < n9 ∧ m.src = m.to) ∨ (i < n9 ∧ m.src ≠ m.to) by omega) with h1 | ⟨h1, h2⟩ | ⟨h1, h2⟩
      · have hi9 : ¬ i < n9 := by omega
        refine CW_reg fun K_ hK => ?_
        simp [wk, vk, ek, ok, lk, er_dSubs2, buildD, fillD, eql28, thr, dMix, dSta, f2, f7, b7, f8, f9, b9, f11, f12, hi9, e6, e7]
        refine hK _ ?_
        refine CW_no rfl ?_
        refine CW_ex ?_
        refine hX0 _ ?_
        refine hKn7 _ ?_
        exact ⟨m, hfw, by simp [upd, f2], by simp [upd, f7], by simp [upd2, b7, dSta], by simp [upd, f8], by simp [upd, f9], by simp [upd2, b9, dMix], by simp [upd, f11]⟩
      · have q1 : ((m.src : Int) != (m.to : Int)) = false := by rw [h2]; simp
        have q2 : (m.src : Int) = (m.to : Int) := by rw [h2]
        refine CW_reg fun K_ hK => ?_
        simp [wk, vk, ek, ok, lk, er_dSubs2, buildD, fillD, eql28, thr, dMix, dSta, f2, f7, b7, f8, f9, b9, f11, f12, h1, e6, e7, q1, q2]
        refine hK _ ?_
        refine CW_no rfl ?_
        refine CW_ex ?_
        refine hX0 _ ?_
        refine hKn7 _ ?_
        exact ⟨m, hfw, by simp [upd, f2], by simp [upd, f7], by simp [upd2, b7, dSta], by simp [upd, f8], by simp [upd, f9], by simp [upd2, b9, dMix], by simp [upd, f11]⟩
      · have q1 : ((m.src : Int) != (m.to : Int)) = true := by simp; omega
        have q2 : ¬ (m.src : Int) = (m.to : Int) := by omega
        obtain ⟨m', hm'⟩ : ∃ m', m' = stepP m s := ⟨_, rfl⟩
        have hfw' : Fwd src to m' := hm' ▸ fwd_step htr.1 hG hfw h2
        have c6 := step_eq (W := W) hG h2
        rw [← hm', dMix, dMix, dSta] at c6
        have c7 := kept7 (W := W) L m' hfw'.1 s hG (hz m')
        rw [dMix, dSta] at c7
        refine CW_reg fun K_ hK => ?_
        simp [wk, vk, ek, ok, lk, er_dSubs2, buildD, fillD, eql28, thr, dMix, dSta, f2, f7, b7, f8, f9, b9, f11, f12, h1, e6, e7, q1, q2]
        refine hK _ ?_
        refine CW_yes rfl ?_
        refine CW_sk ?_
        refine CW_seq1 ?_
        refine CW_blk fun K1 hn1 hx1 hr1 hj1 => ?_
        refine CW_reg fun K_ hK => ?_
        simp [wk, vk, ek, ok, lk, er_dSubs2, buildD, fillD, eql28, thr, dMix, dSta, f2, f7, b7, f8, f9, b9, f11, f12, h1, e6, e7, q1, q2]
        refine CallW_use (c6) ?_
        simp [wk, vk, ek, ok, lk, er_dSubs2, buildD, fillD, eql28, thr, dMix, dSta, f2, f7, b7, f8, f9, b9, f11, f12, h1, e6, e7, q1, q2]
        refine hK _ ?_
        refine CW_reg fun K_ hK => ?_
        simp [wk, vk, ek, ok, lk, er_dSubs2, buildD, fillD, eql28, thr, dMix, dSta, f2, f7, b7, f8, f9, b9, f11, f12, h1, e6, e7, q1, q2]
        refine hK _ ?_
        refine CW_reg fun K_ hK => ?_
        simp [wk, vk, ek, ok, lk, er_dSubs2, buildD, fillD, eql28, thr, dMix, dSta, f2, f7, b7, f8, f9, b9, f11, f12, h1, e6, e7, q1, q2]
        refine CallW_use (c7) ?_
        simp [wk, vk, ek, ok, lk, er_dSubs2, buildD, fillD, eql28, thr, dMix, dSta, f2, f7, b7, f8, f9, b9, f11, f12, h1, e6, e7, q1, q2]
        refine hK _ ?_
        refine CW_no rfl ?_
        refine CW_sk ?_
        refine hn1 _ ?_
        refine CW_reg1 fun K_ hK => ?_
        simp [wk, vk, ek, ok, lk, er_dSubs2, buildD, fillD, eql28, thr, dMix, dSta, f2, f7, b7, f8, f9, b9, f11, f12, h1, e6, e7, q1, q2]
        refine hK _ ?_
        refine hN0 (9 - (i + 1)) _ (by omega) ⟨i + 1, m', rfl, by omega, hfw', by simp [upd, f2], by simp [upd, f7], by simp [upd2, b7, dSta], by simp [upd, f8], by simp [upd, f9], by simp [upd2, dMix], by simp [upd, f11], ?_⟩
        simp [upd, f12]; rw [w64 (by omega) (by omega)]
  · rintro ⟨fr, bx, tp, c⟩ ⟨m, hfw, f2, f7, b7, f8, f9, b9, f11⟩
    simp only at f2 f7 b7 f8 f9 b9 f11
    rw [dMix] at b9
    rw [dSta] at b7
    refine CW_seq1 ?_
    refine CW_reg fun K_ hK => ?_
    simp [wk, vk, ek, ok, lk, er_dSubs2, buildD, fillD, eql28, thr, dMix, dSta, f2, f7, b7, f8, f9, b9, f11]
    refine hK _ ?_
    refine CW_cond rfl (fun hct72 => ?_) (fun hct72 => ?_)
    · have hq : m.src = m.to := by have h : (m.src : Int) = (m.to : Int) := (by simpa [wk, vk, ek] using hct72); omega
      have hmt : m.to = to := by
          rcases hfw.2 with h | ⟨_, h, _⟩
          · rw [h]
          · exact h
      have q3 : ((m.to : Int) == (to : Int)) = true := by rw [hmt]; simp
      refine CW_reg fun K_ hK => ?_
      simp [wk, vk, ek, ok, lk, er_dSubs2, buildD, fillD, eql28, thr, dMix, dSta, f2, f7, b7, f8, f9, b9, f11, q3]
      refine CallW_use (known8) ?_
      simp [wk, vk, ek, ok, lk, er_dSubs2, buildD, fillD, eql28, thr, dMix, dSta, f2, f7, b7, f8, f9, b9, f11, q3]
      refine hK _ ?_
      refine CW_rt ?_
      refine ends_ret ?_
      simp [Tryz.results3, resD, resL, resD1, vk, wk, ok, lk, er_dSubs2, buildD, fillD, eql28, ek, dMix, dSta, f2, f7, b7, f8, f9, b9, f11]
    · have hq : m.src ≠ m.to := by have h : ¬ (m.src : Int) = (m.to : Int) := (by simpa [wk, vk, ek] using hct72); omega
      have hfs : m.src = src ∧ m.to = to ∧ m.back = false := by
          rcases hfw.2 with h | h
          · rw [h] at hq; exact absurd rfl hq
          · exact h
      have c9 := turn9 (W := W) m hq
      obtain ⟨b, hb⟩ : ∃ b : Mix, b = { m with back := !m.back } := ⟨_, rfl⟩
      have hbw : Bwd src s 30 b := by
          rw [hb]
          have hmw := hfw.1.way
          refine ⟨⟨hfw.1.src, hfw.1.to, hfw.1.cur, ?_⟩, .inr ⟨hfs.1, by simp [hfs.2.2], hq, ?_⟩⟩
          · rcases hmw with h | h | h
            · exact absurd h.1 hq
            · exact .inr (.inl h)
            · exact .inr (.inr h)
          · have h1 := pickI_len { m with back := !m.back } (idsL s)
            have h2 := hG.len
            rw [idsL, List.length_map] at h1
            rw [idsL]
            omega
      rw [← hb, dMix, dMix] at c9
      refine CW_sk ?_
      refine CW_reg fun K_ hK => ?_
      simp [wk, vk, ek, ok, lk, er_dSubs2, buildD, fillD, eql28, thr, dMix, dSta, f2, f7, b7, f8, f9, b9, f11]
      refine CallW_use (c9) ?_
      simp [wk, vk, ek, ok, lk, er_dSubs2, buildD, fillD, eql28, thr, dMix, dSta, f2, f7, b7, f8, f9, b9, f11]
      refine hK _ ?_
      refine CW_seq1 ?_
      refine CW_reg fun K_ hK => ?_
      simp [wk, vk, ek, ok, lk, er_dSubs2, buildD, fillD, eql28, thr, dMix, dSta, f2, f7, b7, f8, f9, b9, f11]
      refine hK _ ?_
      refine CW_no rfl ?_
      refine CW_sk ?_
      refine CW_join (fun τ => ∃ g, τ.fr 7 = .p 7 0 0 ∧ τ.bx 7 0 = some (dSta s) ∧ τ.fr 8 = .i .i64 src ∧ τ.fr 15 = .p 15 g 0 ∧ τ.bx 15 g = some (dMix ⟨src, src, 0, false⟩)) (fun Kj19 hKn19 hKx19 => ?_) ?_
      · refine CW_reg fun K_ hK => ?_
        simp [wk, vk, ek, ok, lk, er_dSubs2, buildD, fillD, eql28, thr, dMix, dSta, f2, f7, b7, f8, f9, b9, f11]
        refine hK _ ?_
        refine CW_for (fun j τ => ∃ (i g : Nat) (b : Mix), j = 30 - i ∧ i ≤ 30 ∧ Bwd src s (30 - i) b ∧ τ.fr 7 = .p 7 0 0 ∧ τ.bx 7 0 = some (dSta s) ∧ τ.fr 8 = .i .i64 src ∧ τ.fr 15 = .p 15 g 0 ∧ τ.bx 15 g = some (dMix b) ∧ τ.fr 17 = .i .i64 i) (30) ?_ ?_
        · exact ⟨0, c, b, rfl, by omega, hbw, by simp [upd, f7], by simp [upd2, b7, dSta], by simp [upd, f8], by simp [upd], by simp [upd2, dMix], by simp [upd]⟩
        · rintro j ⟨fr, bx, tp, c⟩ ⟨i, g, b, rfl, hi, hbw, f7, b7, f8, f15, b15, f17⟩ K2 hN2 hX2 hR2 hJ2
          simp only at f7 b7 f8 f15 b15 f17
          rw [dMix] at b15
          rw [dSta] at b7
          refine CW_seq1 ?_
          rcases (show 30 ≤ i ∨ (i < 30 ∧ b.src = b.to) ∨ (i < 30 ∧ b.src ≠ b.to) by omega) with h1 | ⟨h1, h2⟩ | ⟨h1, h2⟩
          · have hi30 : ¬ (i : Int) < 30 := by omega
            have hdone : b = ⟨src, src, 0, false⟩ := by
                rcases hbw.2 with h | ⟨_, _, _, h⟩
                · exact h
                · omega
            refine CW_reg fun K_ hK => ?_
            simp [wk, vk, ek, ok, lk, er_dSubs2, buildD, fillD, eql28, thr, dMix, dSta, f7, b7, f8, f15, b15, f17, hi30]
            refine hK _ ?_
            refine CW_no rfl ?_
            refine CW_ex ?_
            refine hX2 _ ?_
            refine hKn19 _ ?_
            exact ⟨g, by simp [upd, f7], by simp [upd2, b7, dSta], by simp [upd, f8], by simp [upd, f15], by simp [upd2, b15, hdone, dMix]⟩
          · have hi30 : (i : Int) < 30 := by omega
            have q1 : ((b.src : Int) != (b.to : Int)) = false := by rw [h2]; simp
            have q2 : (b.src : Int) = (b.to : Int) := by rw [h2]
            have hdone : b = ⟨src, src, 0, false⟩ := by
                rcases hbw.2 with h | ⟨_, _, h, _⟩
                · exact h
                · exact absurd h2 h
            refine CW_reg fun K_ hK => ?_
            simp [wk, vk, ek, ok, lk, er_dSubs2, buildD, fillD, eql28, thr, dMix, dSta, f7, b7, f8, f15, b15, f17, hi30, q1, q2]
            refine hK _ ?_
            refine CW_no rfl ?_
            refine CW_ex ?_
            refine hX2 _ ?_
            refine hKn19 _ ?_
            exact ⟨g, by simp [upd, f7], by simp [upd2, b7, dSta], by simp [upd, f8], by simp [upd, f15], by simp [upd2, b15, hdone, dMix]⟩
          · have hi30 : (i : Int) < 30 := by omega
            have q1 : ((b.src : Int) != (b.to : Int)) = true := by simp; omega
            have q2 : ¬ (b.src : Int) = (b.to : Int) := by omega
            obtain ⟨m', hm'⟩ : ∃ m', m' = stepP b s := ⟨_, rfl⟩
            have hbw' : Bwd src s (29 - i) m' := hm' ▸ bwd_step hsr hG (by rw [show 29 - i + 1 = 30 - i by omega]; exact hbw) h2
            have c6 := step_eq (W := W) hG h2
            rw [← hm', dMix, dMix, dSta] at c6
            have c7 := kept7 (W := W) L m' hbw'.1 s hG (hz m')
            rw [dMix, dSta] at c7
            refine CW_reg fun K_ hK => ?_
            simp [wk, vk, ek, ok, lk, er_dSubs2, buildD, fillD, eql28, thr, dMix, dSta, f7, b7, f8, f15, b15, f17, hi30, q1, q2]
            refine hK _ ?_
            refine CW_yes rfl ?_
            refine CW_sk ?_
            refine CW_seq1 ?_
            refine CW_blk fun K3 hn3 hx3 hr3 hj3 => ?_
            refine CW_reg fun K_ hK => ?_
            simp [wk, vk, ek, ok, lk, er_dSubs2, buildD, fillD, eql28, thr, dMix, dSta, f7, b7, f8, f15, b15, f17, hi30, q1, q2]
            refine CallW_use (c6) ?_
            simp [wk, vk, ek, ok, lk, er_dSubs2, buildD, fillD, eql28, thr, dMix, dSta, f7, b7, f8, f15, b15, f17, hi30, q1, q2]
            refine hK _ ?_
            refine CW_reg fun K_ hK => ?_
            simp [wk, vk, ek, ok, lk, er_dSubs2, buildD, fillD, eql28, thr, dMix, dSta, f7, b7, f8, f15, b15, f17, hi30, q1, q2]
            refine hK _ ?_
            refine CW_reg fun K_ hK => ?_
            simp [wk, vk, ek, ok, lk, er_dSubs2, buildD, fillD, eql28, thr, dMix, dSta, f7, b7, f8, f15, b15, f17, hi30, q1, q2]
            refine CallW_use (c7) ?_
            simp [wk, vk, ek, ok, lk, er_dSubs2, buildD, fillD, eql28, thr, dMix, dSta, f7, b7, f8, f15, b15, f17, hi30, q1, q2]
            refine hK _ ?_
            refine CW_no rfl ?_
            refine CW_sk ?_
            refine hn3 _ ?_
            refine CW_reg1 fun K_ hK => ?_
            simp [wk, vk, ek, ok, lk, er_dSubs2, buildD, fillD, eql28, thr, dMix, dSta, f7, b7, f8, f15, b15, f17, hi30, q1, q2]
            refine hK _ ?_
            refine hN2 (30 - (i + 1)) _ (by omega) ⟨i + 1, g, m', rfl, by omega, by rw [show 30 - (i + 1) = 29 - i by omega]; exact hbw', by simp [upd, f7], by simp [upd2, b7, dSta], by simp [upd, f8], by simp [upd, f15], by simp [upd2, dMix], ?_⟩
            simp [upd, f17]; rw [w64 (by omega) (by omega)]
      · rintro ⟨fr, bx, tp, c⟩ ⟨g, f7, b7, f8, f15, b15⟩
        simp only at f7 b7 f8 f15 b15
        rw [dMix] at b15
        rw [dSta] at b7
        refine CW_reg fun K_ hK => ?_
        simp [wk, vk, ek, ok, lk, er_dSubs2, buildD, fillD, eql28, thr, dMix, dSta, f7, b7, f8, f15, b15]
        refine CallW_use (known8) ?_
        simp [wk, vk, ek, ok, lk, er_dSubs2, buildD, fillD, eql28, thr, dMix, dSta, f7, b7, f8, f15, b15]
        refine hK _ ?_
        refine CW_rt ?_
        refine ends_ret ?_
        simp [Tryz.results3, resD, resL, resD1, vk, wk, ok, lk, er_dSubs2, buildD, fillD, eql28, ek, dMix, dSta, f7, b7, f8, f15, b15]
end Go.Proofs.YtobamidecbfgpaaGreatDoor
