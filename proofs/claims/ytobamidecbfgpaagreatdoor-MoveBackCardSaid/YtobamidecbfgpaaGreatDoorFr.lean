/- The front rows read, over the shadow. No condition. -/
import Derived.Test.YtobamidecbfgpaaGreatDoorRf
import Derived.Test.YtobamidecbfgpaaGreatDoorShC
namespace Go.Proofs.YtobamidecbfgpaaGreatDoor
open Go Go.Sh Go.RowKit
set_option linter.unusedVariables false
set_option linter.unusedSimpArgs false
set_option maxRecDepth 10000
variable {W : World}
def ptr25 (t : Nat) : Option Go.Sh.G.PK := if t = 2 ∨ t = 3 then some (.box t) else if t = 52 ∨ t = 55 ∨ t = 58 ∨ t = 61 ∨ t = 66 ∨ t = 69 ∨ t = 72 then some .rp else none
theorem front25 (L : Laid W) (m : Mix) (s : Sta) (l : List Row) (hl : l.length ≤ 100000) (hm : MixOK m) (hs : s.clock ≤ 9999 ∧ s.next ≤ 9999 ∧ s.last ≤ 9999) (he1 : ∃ r ∈ l, r.key = keyB 0 109 0 0) (hu1 : ∀ r ∈ l, r.key = keyB 0 109 0 0 → r.val = numsB [s.clock, s.next, s.last]) (he2 : ∃ r ∈ l, r.key = keyB 0 118 0 0) (hu2 : ∀ r ∈ l, r.key = keyB 0 118 0 0 → r.val = numsB [m.src, m.to, m.cursor, if m.back then 1 else 0]) : Fc T W 25 [dRows l] (.tu [dMix m, dSta { s with subs := [] }, .b true]) := by
  obtain ⟨⟨a1, a2⟩, ⟨b1, b2⟩, cu, way⟩ := hm
  obtain ⟨bk, hbk⟩ : ∃ n : Nat, n = if m.back then 1 else 0 := ⟨_, rfl⟩
  rw [← hbk] at hu2
  have hb1 : bk ≤ 1 := by rw [hbk]; split <;> omega
  have e1 : ((bk : Int) == 1) = m.back := by rw [hbk]; cases m.back <;> rfl
  have n1 := numbers41 (W := W) [s.clock, s.next, s.last] (by intro a ha; simp at ha; omega) (by simp)
  have n2 := numbers41 (W := W) [m.src, m.to, m.cursor, bk] (by intro a ha; simp at ha; omega) (by simp)
  have j0 : indexD T 41 (dInts [s.clock, s.next, s.last]) (.i .i64 0) = some (.rp (iN s.clock)) := ix_dI [s.clock, s.next, s.last] .i64 0 (by simp)
  have j1 : indexD T 41 (dInts [s.clock, s.next, s.last]) (.i .i64 1) = some (.rp (iN s.next)) := ix_dI [s.clock, s.next, s.last] .i64 1 (by simp)
  have j2 : indexD T 41 (dInts [s.clock, s.next, s.last]) (.i .i64 2) = some (.rp (iN s.last)) := ix_dI [s.clock, s.next, s.last] .i64 2 (by simp)
  have k0 : indexD T 41 (dInts [m.src, m.to, m.cursor, bk]) (.i .i64 0) = some (.rp (iN m.src)) := ix_dI [m.src, m.to, m.cursor, bk] .i64 0 (by simp)
  have k1 : indexD T 41 (dInts [m.src, m.to, m.cursor, bk]) (.i .i64 1) = some (.rp (iN m.to)) := ix_dI [m.src, m.to, m.cursor, bk] .i64 1 (by simp)
  have k2 : indexD T 41 (dInts [m.src, m.to, m.cursor, bk]) (.i .i64 2) = some (.rp (iN m.cursor)) := ix_dI [m.src, m.to, m.cursor, bk] .i64 2 (by simp)
  have k3 : indexD T 41 (dInts [m.src, m.to, m.cursor, bk]) (.i .i64 3) = some (.rp (iN bk)) := ix_dI [m.src, m.to, m.cursor, bk] .i64 3 (by simp)
  refine Go.Sh.G.Fc_intro (thr := thr) (ptr := ptr25) hmix Tryz.func25 rfl (by kernel_rfl) (by intro t ht; simp at ht; subst ht; rfl) (by simp [Tryz.ntmps25]) ?_
  refine CW_reg fun K_ hK => ?_
  simp [wk, vk, ek, ok, lk, er_oK, er_dRows, buildD, fillD, thr, j0, j1, j2, k0, k1, k2, k3, e1]
  refine hK _ ?_
  refine CW_reg fun K_ hK => ?_
  simp [wk, vk, ek, ok, lk, er_oK, er_dRows, buildD, fillD, thr, j0, j1, j2, k0, k1, k2, k3, e1]
  refine CallW_use (key_ok L 0 109 0 0 (by decide) (by decide) (by decide) (by decide)) ?_
  simp [wk, vk, ek, ok, lk, er_oK, er_dRows, buildD, fillD, thr, j0, j1, j2, k0, k1, k2, k3, e1]
  refine CallW_use (value40 l hl _ _ he1 hu1) ?_
  simp [wk, vk, ek, ok, lk, er_oK, er_dRows, buildD, fillD, thr, j0, j1, j2, k0, k1, k2, k3, e1]
  refine hK _ ?_
  refine CW_reg fun K_ hK => ?_
  simp [wk, vk, ek, ok, lk, er_oK, er_dRows, buildD, fillD, thr, j0, j1, j2, k0, k1, k2, k3, e1]
  refine CallW_use (key_ok L 0 118 0 0 (by decide) (by decide) (by decide) (by decide)) ?_
  simp [wk, vk, ek, ok, lk, er_oK, er_dRows, buildD, fillD, thr, j0, j1, j2, k0, k1, k2, k3, e1]
  refine CallW_use (value40 l hl _ _ he2 hu2) ?_
  simp [wk, vk, ek, ok, lk, er_oK, er_dRows, buildD, fillD, thr, j0, j1, j2, k0, k1, k2, k3, e1]
  refine hK _ ?_
  refine CW_reg fun K_ hK => ?_
  simp [wk, vk, ek, ok, lk, er_oK, er_dRows, buildD, fillD, thr, j0, j1, j2, k0, k1, k2, k3, e1]
  refine CallW_use (n1) ?_
  simp [wk, vk, ek, ok, lk, er_oK, er_dRows, buildD, fillD, thr, j0, j1, j2, k0, k1, k2, k3, e1]
  refine hK _ ?_
  refine CW_reg fun K_ hK => ?_
  simp [wk, vk, ek, ok, lk, er_oK, er_dRows, buildD, fillD, thr, j0, j1, j2, k0, k1, k2, k3, e1]
  refine CallW_use (n2) ?_
  simp [wk, vk, ek, ok, lk, er_oK, er_dRows, buildD, fillD, thr, j0, j1, j2, k0, k1, k2, k3, e1]
  refine hK _ ?_
  refine CW_seq1 ?_
  refine CW_reg fun K_ hK => ?_
  simp [wk, vk, ek, ok, lk, er_oK, er_dRows, buildD, fillD, thr, j0, j1, j2, k0, k1, k2, k3, e1]
  refine hK _ ?_
  refine CW_no rfl ?_
  refine CW_sk ?_
  refine CW_reg fun K_ hK => ?_
  simp [wk, vk, ek, ok, lk, er_oK, er_dRows, buildD, fillD, thr, j0, j1, j2, k0, k1, k2, k3, e1]
  refine hK _ ?_
  refine CW_rt ?_
  refine ends_ret ?_
  simp [Tryz.results25, resD, resL, resD1, vk, wk, ok, lk, er_oK, er_dRows, buildD, fillD, ek, dMix, dSta, dSubs, DO, j0, j1, j2, k0, k1, k2, k3, e1]
end Go.Proofs.YtobamidecbfgpaaGreatDoor
