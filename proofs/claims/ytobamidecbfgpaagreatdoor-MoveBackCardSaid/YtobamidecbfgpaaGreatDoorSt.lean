/- The law of states: choices and texts, over the shadow. No condition. -/
import Derived.Test.YtobamidecbfgpaaGreatDoorGs
namespace Go.Proofs.YtobamidecbfgpaaGreatDoor
open Go Go.Sh Go.RowKit
set_option linter.unusedVariables false
set_option linter.unusedSimpArgs false
set_option maxRecDepth 10000
variable {W : World}
/-- Bytes that a law is handed: nil or not. -/
structure IsC (d : D) (c : Str) : Prop where
  len : lenOk T 22 d = some (.i .i64 c.length)
  ix : ∀ (n : Nat) (h : n < c.length), indexD T 22 d (.i .i64 n) = some (.rp (byteD c[n]))
  er : er d = d
  sl : ∀ (a b : Nat), a < b → b ≤ c.length → sliceD T 22 d (some (.i .i64 a)) (some (.i .i64 b)) = some (.sl 1 (((c.take b).drop a).map byteD) .shut)
  one : d.isAg = false ∧ d.cells = [d] ∧ d.solid = true
theorem isC_nil : IsC .nil [] := ⟨rfl, fun n h => by simp at h, by simp [er], fun a b h1 h2 => by simp at h2; omega, rfl, rfl, rfl⟩
theorem isC_sl (c : Str) : IsC (.sl 1 (c.map byteD) .shut) c := by
  refine ⟨by rw [lens22, List.length_map], fun n h => ?_, by simp [er, er_byte], fun a b h1 h2 => ?_, rfl, rfl, rfl⟩
  · rw [ix22, if_pos ⟨by omega, by simp; omega, rfl⟩]
    simp [List.getD, h]
  · rw [sl22 _ _ _ _ a b (by simp [getI]) (by simp [getI]) ⟨by omega, by simp; omega⟩, List.map_drop, List.map_take]
def gC (c : Str) (i : Nat) : Nat := (c.getD i 0).toNat
theorem gC_le (c : Str) (i : Nat) : gC c i ≤ 255 := by have := (c.getD i 0).toNat_lt; unfold gC; omega
def letS (k n : Nat) : Str := (List.range n).map fun i => u8 (97 + (i + k) % 26)
def textC (k most : Nat) : Str := letS k (k % (most + 1))
theorem letS_succ (k n : Nat) : letS k (n + 1) = letS k n ++ [u8 (97 + (n + k) % 26)] := by simp [letS, List.range_succ]
theorem letS_len (k n : Nat) : (letS k n).length = n := by simp [letS]
theorem textC_len (k most : Nat) : (textC k most).length ≤ most := by rw [textC, letS_len]; have := Nat.mod_lt k (show 0 < most + 1 by omega); omega
theorem wrap8 {x : Int} (h0 : 0 ≤ x) (h1 : x ≤ 255) : IntKind.u8.wrap x = x := by rw [IntKind.wrap_u8]; omega
theorem g10 (d : D) (c : Str) (hc : IsC d c) (i : Nat) : Fc T W 10 [d, .i .i64 i] (.i .i64 (gC c i)) := by
  refine Fc_intro (thr := thr) hmix Tryz.func10 rfl (by kernel_rfl) (by simp [Tryz.ntmps10]) ?_
  refine CW_reg fun K_ hK => ?_
  simp [wk, vk, ek, ok, lk, buildD, fillD, thr, hc.len, hc.er]
  refine hK _ ?_
  refine CW_seq1 ?_
  refine CW_reg fun K_ hK => ?_
  simp [wk, vk, ek, ok, lk, buildD, fillD, thr, hc.len, hc.er]
  refine hK _ ?_
  refine CW_cond rfl (fun hct8 => ?_) (fun hct8 => ?_)
  · have hil : i < c.length := by simpa [wk, vk, ek, ok, hc.len] using hct8
    have hx := hc.ix i hil
    have hg : gC c i = c[i].toNat := by simp [gC, List.getD, hil]
    have hb : c[i].toNat < 256 := c[i].toNat_lt
    have hw : IntKind.i64.wrap (c[i].toNat : Int) = (c[i].toNat : Int) := w64 (by omega) (by omega)
    refine CW_reg fun K_ hK => ?_
    simp [wk, vk, ek, ok, lk, buildD, fillD, thr, hc.len, hc.er, hx, hg, hw, byteD]
    refine hK _ ?_
    refine CW_rt ?_
    refine ends_ret ?_
    simp [Tryz.results10, resD, resL, resD1, vk, wk, ok, lk, buildD, fillD, ek, hc.len, hc.er, hx, hg, hw, byteD]
  · have hil : ¬ i < c.length := by simpa [wk, vk, ek, ok, hc.len] using hct8
    have hg : gC c i = 0 := by simp [gC, List.getD, hil]
    refine CW_sk ?_
    refine CW_reg fun K_ hK => ?_
    simp [wk, vk, ek, ok, lk, buildD, fillD, thr, hc.len, hc.er, hg]
    refine hK _ ?_
    refine CW_rt ?_
    refine ends_ret ?_
    simp [Tryz.results10, resD, resL, resD1, vk, wk, ok, lk, buildD, fillD, ek, hc.len, hc.er, hg]
theorem text22 (k most : Nat) (hk : k ≤ 9999) (hm : most ≤ 100) : Fc T W 22 [.i .i64 k, .i .i64 most] (.s (textC k most)) := by
  have e1 : IntKind.i64.wrap ((most : Int) + 1) = ((most + 1 : Nat) : Int) := by rw [w64 (by omega) (by omega)]; omega
  obtain ⟨q, hq⟩ : ∃ q, q = most + 1 := ⟨_, rfl⟩
  rw [← hq] at e1
  have hq0 : ¬ (q : Int) = 0 := by omega
  have hq1 : ¬ q = 0 := by omega
  have e2 : (k : Int).tmod (q : Int) = ((k % q : Nat) : Int) := rfl
  obtain ⟨n, hn⟩ : ∃ n, n = k % q := ⟨_, rfl⟩
  rw [← hn] at e2
  have hnl : n ≤ most := by have := Nat.mod_lt k (show 0 < q by omega); omega
  have hres : textC k most = letS k n := by rw [textC, ← hq, ← hn]
  rw [hres]
  refine Fc_intro (thr := thr) hmix Tryz.func22 rfl (by kernel_rfl) (by simp [Tryz.ntmps22]) ?_
  refine CW_reg fun K_ hK => ?_
  simp [wk, vk, ek, ok, lk, buildD, fillD, thr]
  refine hK _ ?_
  refine CW_reg fun K_ hK => ?_
  simp [wk, vk, ek, ok, lk, buildD, fillD, thr]
  refine hK _ ?_
  refine CW_seq1 ?_
  refine CW_reg fun K_ hK => ?_
  simp [wk, vk, ek, ok, lk, buildD, fillD, thr]
  refine hK _ ?_
  refine CW_for (fun j τ => ∃ i : Nat, j = n - i ∧ i ≤ n ∧ τ.fr 0 = .i .i64 k ∧ τ.fr 1 = .i .i64 most ∧ τ.fr 5 = .s (letS k i) ∧ τ.fr 6 = .i .i64 i) (n) ?_ ?_
  · exact ⟨0, rfl, by omega, by simp [upd], by simp [upd], by simp [upd]; rfl, by simp [upd]⟩
  · rintro j ⟨fr, bx, tp, c⟩ ⟨i, rfl, hi, f0, f1, f5, f6⟩ K0 hN0 hX0 hR0 hJ0
    simp only at f0 f1 f5 f6
    refine CW_seq1 ?_
    refine CW_reg fun K_ hK => ?_
    simp [wk, vk, ek, ok, lk, buildD, fillD, thr, f0, f1, f5, f6, e1, e2, hq0, hq1]
    refine hK _ ?_
    refine CW_cond rfl (fun hct12 => ?_) (fun hct12 => ?_)
    · have hil : i < n := by simpa [wk, vk, ek, ok, f0, f1, f6, e1, e2, hq0, hq1] using hct12
      have e3 : IntKind.i64.wrap ((i : Int) + (k : Int)) = ((i + k : Nat) : Int) := by rw [w64 (by omega) (by omega)]; omega
      obtain ⟨r, hr⟩ : ∃ r, r = i + k := ⟨_, rfl⟩
      rw [← hr] at e3
      have e4 : (r : Int).tmod 26 = ((r % 26 : Nat) : Int) := rfl
      obtain ⟨t, ht⟩ : ∃ t, t = r % 26 := ⟨_, rfl⟩
      have ht26 : t < 26 := by omega
      rw [← ht] at e4
      have e5 : IntKind.u8.wrap (t : Int) = (t : Int) := wrap8 (by omega) (by omega)
      have e6 : IntKind.u8.wrap (97 + (t : Int)) = ((97 + t : Nat) : Int) := by rw [wrap8 (by omega) (by omega)]; omega
      have e7 := conv1 (97 + t) (by omega)
      obtain ⟨z, hz⟩ : ∃ z, z = 97 + t := ⟨_, rfl⟩
      rw [← hz] at e6 e7
      have e8 : u8 (97 + (i + k) % 26) = u8 z := by rw [hz, ht, hr]
      have e9 : (letS k i).length + 1 ≤ 4611686018427387904 := by rw [letS_len]; omega
      have ex : (letS k i).length = i := letS_len k i
      have e10 : i + 1 ≤ 4611686018427387904 := by omega
      have e11 : i ≤ 4611686018427387903 := by omega
      refine CW_sk ?_
      refine CW_seq1 ?_
      refine CW_blk fun K1 hn1 hx1 hr1 hj1 => ?_
      refine CW_reg1 fun K_ hK => ?_
      simp [wk, vk, ek, ok, lk, buildD, fillD, thr, f0, f1, f5, f6, e1, e2, hq0, hq1, hil, e3, e4, e5, e6, e7, e9, ex, e10, e11]
      refine hK _ ?_
      refine hn1 _ ?_
      refine CW_reg1 fun K_ hK => ?_
      simp [wk, vk, ek, ok, lk, buildD, fillD, thr, f0, f1, f5, f6, e1, e2, hq0, hq1, hil, e3, e4, e5, e6, e7, e9, ex, e10, e11]
      refine hK _ ?_
      refine hN0 (n - (i + 1)) _ (by omega) ⟨i + 1, rfl, by omega, by simp [upd, f0], by simp [upd, f1], by simp [upd, letS_succ, e8], ?_⟩
      simp [upd]; rw [w64 (by omega) (by omega)]
    · have hil : ¬ i < n := by simpa [wk, vk, ek, ok, f0, f1, f6, e1, e2, hq0, hq1] using hct12
      obtain rfl : i = n := by omega
      refine CW_ex ?_
      refine hX0 _ ?_
      refine CW_reg fun K_ hK => ?_
      simp [wk, vk, ek, ok, lk, buildD, fillD, thr, f5]
      refine hK _ ?_
      refine CW_rt ?_
      refine ends_ret ?_
      simp [Tryz.results22, resD, resL, resD1, vk, wk, ok, lk, buildD, fillD, ek, f5]
end Go.Proofs.YtobamidecbfgpaaGreatDoor
