/- Rows, and the kinds of death, over the shadow. No condition. -/
import Derived.Test.YtobamidecbfgpaaGreatDoorOw
namespace Go.Proofs.YtobamidecbfgpaaGreatDoor
open Go Go.Sh Go.RowKit
set_option linter.unusedVariables false
set_option linter.unusedSimpArgs false
set_option maxRecDepth 10000
variable {W : World}
def isDead (m : Msg) : Nat := if m.dead then 1 else 0
def nackS : Str := [110, 97, 99, 107]
def timeS : Str := [116, 105, 109, 101]
def deathN (m : Msg) : Nat := if m.dead then (if m.why = nackS then 1 else 2) else 0
def whyS (n : Nat) : Str := if n = 0 then [] else if n = 1 then nackS else timeS
theorem row79 (L : Laid W) {t id seq : Nat} {b : Str} (ht : t < 256) (hi : id ≤ 9999999999) (hs : seq ≤ 9999999999) : Fc T W 79 [.i .u8 t, .i .i64 id, .i .i64 seq, dBytes b] (dRow ⟨keyB 1 t id seq, b⟩) := by
  refine Fc_intro (thr := thr) hmix Tryz.func79 rfl (by kernel_rfl) (by simp [Tryz.ntmps79]) ?_
  refine CW_reg fun K_ hK => ?_
  simp [wk, vk, ek, ok, buildD, fillD, thr]
  refine hK _ ?_
  refine CW_reg fun K_ hK => ?_
  simp [wk, vk, ek, ok, buildD, fillD, thr]
  refine CallW_use (key_ok L 1 t id seq (by decide) ht hi hs) ?_
  simp [wk, vk, ek, ok, buildD, fillD, thr]
  refine hK _ ?_
  refine CW_rt ?_
  refine ends_ret ?_
  simp [Tryz.results79, resD, resL, resD1, vk, wk, ok, buildD, fillD, ek, dRow]
theorem row84 (L : Laid W) {t id seq : Nat} {b : Str} (ht : t < 256) (hi : id ≤ 9999999999) (hs : seq ≤ 9999999999) : Fc T W 84 [.i .u8 t, .i .i64 id, .i .i64 seq, dBytes b] (dRow ⟨keyB 2 t id seq, b⟩) := by
  refine Fc_intro (thr := thr) hmix Tryz.func84 rfl (by kernel_rfl) (by simp [Tryz.ntmps84]) ?_
  refine CW_reg fun K_ hK => ?_
  simp [wk, vk, ek, ok, buildD, fillD, thr]
  refine hK _ ?_
  refine CW_reg fun K_ hK => ?_
  simp [wk, vk, ek, ok, buildD, fillD, thr]
  refine CallW_use (key_ok L 2 t id seq (by decide) ht hi hs) ?_
  simp [wk, vk, ek, ok, buildD, fillD, thr]
  refine hK _ ?_
  refine CW_rt ?_
  refine ends_ret ?_
  simp [Tryz.results84, resD, resL, resD1, vk, wk, ok, buildD, fillD, ek, dRow]
theorem row90 (L : Laid W) {t id seq : Nat} {b : Str} (ht : t < 256) (hi : id ≤ 9999999999) (hs : seq ≤ 9999999999) : Fc T W 90 [.i .u8 t, .i .i64 id, .i .i64 seq, dBytes b] (dRow ⟨keyB 3 t id seq, b⟩) := by
  refine Fc_intro (thr := thr) hmix Tryz.func90 rfl (by kernel_rfl) (by simp [Tryz.ntmps90]) ?_
  refine CW_reg fun K_ hK => ?_
  simp [wk, vk, ek, ok, buildD, fillD, thr]
  refine hK _ ?_
  refine CW_reg fun K_ hK => ?_
  simp [wk, vk, ek, ok, buildD, fillD, thr]
  refine CallW_use (key_ok L 3 t id seq (by decide) ht hi hs) ?_
  simp [wk, vk, ek, ok, buildD, fillD, thr]
  refine hK _ ?_
  refine CW_rt ?_
  refine ends_ret ?_
  simp [Tryz.results90, resD, resL, resD1, vk, wk, ok, buildD, fillD, ek, dRow]
theorem dead82 (m : Msg) : Fc T W 82 [dMsg m] (.i .i64 (isDead m)) := by
  refine Fc_intro (thr := thr) hmix Tryz.func82 rfl (by kernel_rfl) (by simp [Tryz.ntmps82]) ?_
  refine CW_reg fun K_ hK => ?_
  simp [wk, vk, ek, ok, buildD, fillD, thr, dMsg]
  refine hK _ ?_
  refine CW_seq1 ?_
  refine CW_reg fun K_ hK => ?_
  simp [wk, vk, ek, ok, buildD, fillD, thr, dMsg]
  refine hK _ ?_
  refine CW_cond rfl (fun hct4 => ?_) (fun hct4 => ?_)
  · refine CW_reg fun K_ hK => ?_
    simp [wk, vk, ek, ok, buildD, fillD, thr, dMsg, hct4]
    refine hK _ ?_
    refine CW_rt ?_
    refine ends_ret ?_
    simp [Tryz.results82, resD, resL, resD1, vk, wk, ok, buildD, fillD, ek, isDead, dMsg, hct4]
  · refine CW_sk ?_
    refine CW_reg fun K_ hK => ?_
    simp [wk, vk, ek, ok, buildD, fillD, thr, dMsg, hct4]
    refine hK _ ?_
    refine CW_rt ?_
    refine ends_ret ?_
    simp [Tryz.results82, resD, resL, resD1, vk, wk, ok, buildD, fillD, ek, isDead, dMsg, hct4]
theorem dead88 (m : Msg) : Fc T W 88 [dMsg m] (.i .i64 (isDead m)) := by
  refine Fc_intro (thr := thr) hmix Tryz.func88 rfl (by kernel_rfl) (by simp [Tryz.ntmps88]) ?_
  refine CW_reg fun K_ hK => ?_
  simp [wk, vk, ek, ok, buildD, fillD, thr, dMsg]
  refine hK _ ?_
  refine CW_seq1 ?_
  refine CW_reg fun K_ hK => ?_
  simp [wk, vk, ek, ok, buildD, fillD, thr, dMsg]
  refine hK _ ?_
  refine CW_cond rfl (fun hct4 => ?_) (fun hct4 => ?_)
  · refine CW_reg fun K_ hK => ?_
    simp [wk, vk, ek, ok, buildD, fillD, thr, dMsg, hct4]
    refine hK _ ?_
    refine CW_rt ?_
    refine ends_ret ?_
    simp [Tryz.results88, resD, resL, resD1, vk, wk, ok, buildD, fillD, ek, isDead, dMsg, hct4]
  · refine CW_sk ?_
    refine CW_reg fun K_ hK => ?_
    simp [wk, vk, ek, ok, buildD, fillD, thr, dMsg, hct4]
    refine hK _ ?_
    refine CW_rt ?_
    refine ends_ret ?_
    simp [Tryz.results88, resD, resL, resD1, vk, wk, ok, buildD, fillD, ek, isDead, dMsg, hct4]
theorem death83 (m : Msg) : Fc T W 83 [dMsg m] (.i .i64 (deathN m)) := by
  refine Fc_intro (thr := thr) hmix Tryz.func83 rfl (by kernel_rfl) (by simp [Tryz.ntmps83]) ?_
  refine CW_reg fun K_ hK => ?_
  simp [wk, vk, ek, ok, buildD, fillD, thr, dMsg]
  refine hK _ ?_
  refine CW_seq1 ?_
  refine CW_reg fun K_ hK => ?_
  simp [wk, vk, ek, ok, buildD, fillD, thr, dMsg]
  refine hK _ ?_
  refine CW_cond rfl (fun hct5 => ?_) (fun hct5 => ?_)
  · have hd : m.dead = false := by simpa [wk, vk, ek, dMsg] using hct5
    refine CW_reg fun K_ hK => ?_
    simp [wk, vk, ek, ok, buildD, fillD, thr, dMsg, hd]
    refine hK _ ?_
    refine CW_rt ?_
    refine ends_ret ?_
    simp [Tryz.results83, resD, resL, resD1, vk, wk, ok, buildD, fillD, ek, deathN, dMsg, hd]
  · have hd : m.dead = true := by simpa [wk, vk, ek, dMsg] using hct5
    refine CW_sk ?_
    refine CW_seq1 ?_
    refine CW_reg fun K_ hK => ?_
    simp [wk, vk, ek, ok, buildD, fillD, thr, dMsg, hd]
    refine hK _ ?_
    refine CW_cond rfl (fun hct8 => ?_) (fun hct8 => ?_)
    · have hw : m.why = nackS := by simpa [wk, vk, ek, dMsg, nackS] using hct8
      refine CW_reg fun K_ hK => ?_
      simp [wk, vk, ek, ok, buildD, fillD, thr, dMsg, hd, hw]
      refine hK _ ?_
      refine CW_rt ?_
      refine ends_ret ?_
      simp [Tryz.results83, resD, resL, resD1, vk, wk, ok, buildD, fillD, ek, deathN, dMsg, hd, hw]
    · have hw : ¬ m.why = nackS := by simpa [wk, vk, ek, dMsg, nackS] using hct8
      refine CW_sk ?_
      refine CW_reg fun K_ hK => ?_
      simp [wk, vk, ek, ok, buildD, fillD, thr, dMsg, hd, hw]
      refine hK _ ?_
      refine CW_rt ?_
      refine ends_ret ?_
      simp [Tryz.results83, resD, resL, resD1, vk, wk, ok, buildD, fillD, ek, deathN, dMsg, hd, hw]
theorem death89 (m : Msg) : Fc T W 89 [dMsg m] (.i .i64 (deathN m)) := by
  refine Fc_intro (thr := thr) hmix Tryz.func89 rfl (by kernel_rfl) (by simp [Tryz.ntmps89]) ?_
  refine CW_reg fun K_ hK => ?_
  simp [wk, vk, ek, ok, buildD, fillD, thr, dMsg]
  refine hK _ ?_
  refine CW_seq1 ?_
  refine CW_reg fun K_ hK => ?_
  simp [wk, vk, ek, ok, buildD, fillD, thr, dMsg]
  refine hK _ ?_
  refine CW_cond rfl (fun hct5 => ?_) (fun hct5 => ?_)
  · have hd : m.dead = false := by simpa [wk, vk, ek, dMsg] using hct5
    refine CW_reg fun K_ hK => ?_
    simp [wk, vk, ek, ok, buildD, fillD, thr, dMsg, hd]
    refine hK _ ?_
    refine CW_rt ?_
    refine ends_ret ?_
    simp [Tryz.results89, resD, resL, resD1, vk, wk, ok, buildD, fillD, ek, deathN, dMsg, hd]
  · have hd : m.dead = true := by simpa [wk, vk, ek, dMsg] using hct5
    refine CW_sk ?_
    refine CW_seq1 ?_
    refine CW_reg fun K_ hK => ?_
    simp [wk, vk, ek, ok, buildD, fillD, thr, dMsg, hd]
    refine hK _ ?_
    refine CW_cond rfl (fun hct8 => ?_) (fun hct8 => ?_)
    · have hw : m.why = nackS := by simpa [wk, vk, ek, dMsg, nackS] using hct8
      refine CW_reg fun K_ hK => ?_
      simp [wk, vk, ek, ok, buildD, fillD, thr, dMsg, hd, hw]
      refine hK _ ?_
      refine CW_rt ?_
      refine ends_ret ?_
      simp [Tryz.results89, resD, resL, resD1, vk, wk, ok, buildD, fillD, ek, deathN, dMsg, hd, hw]
    · have hw : ¬ m.why = nackS := by simpa [wk, vk, ek, dMsg, nackS] using hct8
      refine CW_sk ?_
      refine CW_reg fun K_ hK => ?_
      simp [wk, vk, ek, ok, buildD, fillD, thr, dMsg, hd, hw]
      refine hK _ ?_
      refine CW_rt ?_
      refine ends_ret ?_
      simp [Tryz.results89, resD, resL, resD1, vk, wk, ok, buildD, fillD, ek, deathN, dMsg, hd, hw]
theorem death94 (m : Msg) : Fc T W 94 [dMsg m] (.i .i64 (deathN m)) := by
  refine Fc_intro (thr := thr) hmix Tryz.func94 rfl (by kernel_rfl) (by simp [Tryz.ntmps94]) ?_
  refine CW_reg fun K_ hK => ?_
  simp [wk, vk, ek, ok, buildD, fillD, thr, dMsg]
  refine hK _ ?_
  refine CW_seq1 ?_
  refine CW_reg fun K_ hK => ?_
  simp [wk, vk, ek, ok, buildD, fillD, thr, dMsg]
  refine hK _ ?_
  refine CW_cond rfl (fun hct5 => ?_) (fun hct5 => ?_)
  · have hd : m.dead = false := by simpa [wk, vk, ek, dMsg] using hct5
    refine CW_reg fun K_ hK => ?_
    simp [wk, vk, ek, ok, buildD, fillD, thr, dMsg, hd]
    refine hK _ ?_
    refine CW_rt ?_
    refine ends_ret ?_
    simp [Tryz.results94, resD, resL, resD1, vk, wk, ok, buildD, fillD, ek, deathN, dMsg, hd]
  · have hd : m.dead = true := by simpa [wk, vk, ek, dMsg] using hct5
    refine CW_sk ?_
    refine CW_seq1 ?_
    refine CW_reg fun K_ hK => ?_
    simp [wk, vk, ek, ok, buildD, fillD, thr, dMsg, hd]
    refine hK _ ?_
    refine CW_cond rfl (fun hct8 => ?_) (fun hct8 => ?_)
    · have hw : m.why = nackS := by simpa [wk, vk, ek, dMsg, nackS] using hct8
      refine CW_reg fun K_ hK => ?_
      simp [wk, vk, ek, ok, buildD, fillD, thr, dMsg, hd, hw]
      refine hK _ ?_
      refine CW_rt ?_
      refine ends_ret ?_
      simp [Tryz.results94, resD, resL, resD1, vk, wk, ok, buildD, fillD, ek, deathN, dMsg, hd, hw]
    · have hw : ¬ m.why = nackS := by simpa [wk, vk, ek, dMsg, nackS] using hct8
      refine CW_sk ?_
      refine CW_reg fun K_ hK => ?_
      simp [wk, vk, ek, ok, buildD, fillD, thr, dMsg, hd, hw]
      refine hK _ ?_
      refine CW_rt ?_
      refine ends_ret ?_
      simp [Tryz.results94, resD, resL, resD1, vk, wk, ok, buildD, fillD, ek, deathN, dMsg, hd, hw]
theorem why113 (n : Nat) (h : n ≤ 2) : Fc T W 113 [.i .i64 n] (.s (whyS n)) := by
  obtain ⟨s, hs⟩ : ∃ s, s = whyS n := ⟨_, rfl⟩
  have hl : litD T 58 3 [(0, .s []), (1, .s [110, 97, 99, 107]), (2, .s [116, 105, 109, 101])] = some (.sl 1 [.s [], .s [110, 97, 99, 107], .s [116, 105, 109, 101]] .full) := lit58 3 _ ⟨by decide, rfl, by simp [vk]⟩
  have hx : indexD T 58 (.sl 1 [.s [], .s [110, 97, 99, 107], .s [116, 105, 109, 101]] .full) (.i .i64 n) = some (.rp (.s (whyS n))) := by
      rcases (show n = 0 ∨ n = 1 ∨ n = 2 by omega) with rfl | rfl | rfl <;> simp [vk, whyS, nackS, timeS]
  refine Fc_intro (thr := thr) hmix Tryz.func113 rfl (by kernel_rfl) (by simp [Tryz.ntmps113]) ?_
  refine CW_reg fun K_ hK => ?_
  simp [wk, vk, ek, ok, buildD, fillD, thr]
  refine hK _ ?_
  refine CW_reg fun K_ hK => ?_
  simp [wk, vk, ek, ok, buildD, fillD, thr, hl, hx]
  refine hK _ ?_
  refine CW_rt ?_
  refine ends_ret ?_
  simp [Tryz.results113, resD, resL, resD1, vk, wk, ok, buildD, fillD, ek, whyS]
theorem why127 (n : Nat) (h : n ≤ 2) : Fc T W 127 [.i .i64 n] (.s (whyS n)) := by
  obtain ⟨s, hs⟩ : ∃ s, s = whyS n := ⟨_, rfl⟩
  have hl : litD T 58 3 [(0, .s []), (1, .s [110, 97, 99, 107]), (2, .s [116, 105, 109, 101])] = some (.sl 1 [.s [], .s [110, 97, 99, 107], .s [116, 105, 109, 101]] .full) := lit58 3 _ ⟨by decide, rfl, by simp [vk]⟩
  have hx : indexD T 58 (.sl 1 [.s [], .s [110, 97, 99, 107], .s [116, 105, 109, 101]] .full) (.i .i64 n) = some (.rp (.s (whyS n))) := by
      rcases (show n = 0 ∨ n = 1 ∨ n = 2 by omega) with rfl | rfl | rfl <;> simp [vk, whyS, nackS, timeS]
  refine Fc_intro (thr := thr) hmix Tryz.func127 rfl (by kernel_rfl) (by simp [Tryz.ntmps127]) ?_
  refine CW_reg fun K_ hK => ?_
  simp [wk, vk, ek, ok, buildD, fillD, thr]
  refine hK _ ?_
  refine CW_reg fun K_ hK => ?_
  simp [wk, vk, ek, ok, buildD, fillD, thr, hl, hx]
  refine hK _ ?_
  refine CW_rt ?_
  refine ends_ret ?_
  simp [Tryz.results127, resD, resL, resD1, vk, wk, ok, buildD, fillD, ek, whyS]
theorem why129 (n : Nat) (h : n ≤ 2) : Fc T W 129 [.i .i64 n] (.s (whyS n)) := by
  obtain ⟨s, hs⟩ : ∃ s, s = whyS n := ⟨_, rfl⟩
  have hl : litD T 58 3 [(0, .s []), (1, .s [110, 97, 99, 107]), (2, .s [116, 105, 109, 101])] = some (.sl 1 [.s [], .s [110, 97, 99, 107], .s [116, 105, 109, 101]] .full) := lit58 3 _ ⟨by decide, rfl, by simp [vk]⟩
  have hx : indexD T 58 (.sl 1 [.s [], .s [110, 97, 99, 107], .s [116, 105, 109, 101]] .full) (.i .i64 n) = some (.rp (.s (whyS n))) := by
      rcases (show n = 0 ∨ n = 1 ∨ n = 2 by omega) with rfl | rfl | rfl <;> simp [vk, whyS, nackS, timeS]
  refine Fc_intro (thr := thr) hmix Tryz.func129 rfl (by kernel_rfl) (by simp [Tryz.ntmps129]) ?_
  refine CW_reg fun K_ hK => ?_
  simp [wk, vk, ek, ok, buildD, fillD, thr]
  refine hK _ ?_
  refine CW_reg fun K_ hK => ?_
  simp [wk, vk, ek, ok, buildD, fillD, thr, hl, hx]
  refine hK _ ?_
  refine CW_rt ?_
  refine ends_ret ?_
  simp [Tryz.results129, resD, resL, resD1, vk, wk, ok, buildD, fillD, ek, whyS]
end Go.Proofs.YtobamidecbfgpaaGreatDoor
