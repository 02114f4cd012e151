/- Texts and numbers behind others, over the shadow. No condition. -/
import Derived.Test.YtobamidecbfgpaaGreatDoorDt
/- Numbers and texts as bytes, over the shadow: Num, join, Text, and what appends them. No condition. -/
namespace Go.Proofs.YtobamidecbfgpaaGreatDoor
open Go Go.Sh Go.RowKit
set_option linter.unusedVariables false
set_option linter.unusedSimpArgs false
variable {W : World}
def u8 (n : Nat) : UInt8 := UInt8.ofNat n
theorem u8_nat {n : Nat} (h : n < 256) : (u8 n).toNat = n := by simp [u8, Nat.mod_eq_of_lt h]
def numB (n : Nat) : Str := if h : 127 < n then u8 (128 + n % 128) :: numB (n / 128) else [u8 n]
termination_by n
theorem numB_big {n : Nat} (h : 127 < n) : numB n = u8 (128 + n % 128) :: numB (n / 128) := by rw [numB, dif_pos h]
theorem numB_small {n : Nat} (h : ¬ 127 < n) : numB n = [u8 n] := by rw [numB, dif_neg h]
theorem numB_len : ∀ (k n : Nat), n < 128 ^ (k + 1) → (numB n).length ≤ k + 1
  | 0, n, h => by rw [numB_small (by omega)]; simp
  | k + 1, n, h => by
    by_cases hb : 127 < n
    · rw [numB_big hb]
      have := numB_len k (n / 128) (by rw [Nat.pow_succ] at h; exact Nat.div_lt_of_lt_mul (by omega))
      simp; omega
    · rw [numB_small hb]; simp
theorem numB_len8 {n : Nat} (h : n ≤ 9007199254740992) : (numB n).length ≤ 8 := numB_len 7 n (by omega)
theorem numB_pos (n : Nat) : 0 < (numB n).length := by
  by_cases hb : 127 < n
  · rw [numB_big hb]; simp
  · rw [numB_small hb]; simp
theorem wrapU8 (n : Nat) (h : n < 256) : D.i .u8 (IntKind.u8.wrap (n : Int)) = byteD (u8 n) := by
  unfold byteD
  rw [u8_nat h, IntKind.wrap_u8]
  congr 1
  omega
theorem w64 {x : Int} (h0 : -9223372036854775808 ≤ x) (h1 : x ≤ 9223372036854775807) : IntKind.i64.wrap x = x := by rw [IntKind.wrap_i64]; omega
theorem num_ok (n : Nat) (hn : n ≤ 9007199254740992) : Fc T W 49 [.i .i64 n] (dBytes (numB n)) := by
  have hl8 := numB_len8 hn
  refine Fc_intro (thr := thr) hmix Tryz.func49 rfl (by kernel_rfl) (by simp [Tryz.ntmps49]) ?_
  refine CW_reg fun K hK => ?_
  simp [wk, vk]
  refine hK _ (CW_reg fun K hK => ?_)
  simp [wk, vk]
  refine hK _ (CW_reg fun K hK => ?_)
  simp [wk, vk]
  refine hK _ (CW_seq1 (CW_for (fun m τ => τ.fr 0 = .i .i64 m ∧ ∃ l g, τ.fr 3 = DO 1 (l.map byteD) (.op 22 g) ∧ (l.map byteD ≠ [] → τ.tp 22 = some (g, (l.map byteD).length)) ∧ numB n = l ++ numB m ∧ m ≤ n) n ?_ ?_))
  · refine ⟨?_, [], 0, ?_⟩
    · simp [upd]
      omega
    · simp [upd, DO]
  · rintro m ⟨fr, bx, tp, c⟩ ⟨h0, l, g, h3, htp, hn2, hmn⟩ K hN hX hR hJ
    simp only at h0 h3 htp
    have hll : l.length ≤ 8 := by rw [hn2, List.length_append] at hl8; omega
    by_cases hb : 127 < m
    · have hbi : (127 : Int) < (m : Int) := by omega
      refine CW_seq1 (CW_reg fun K' hK => ?_)
      simp [wk, vk, h0, h3, hbi]
      refine hK _ (CW_yes rfl (CW_sk (CW_blk fun K hn hx hr hj => CW_reg fun K' hK => ?_)))
      have e1 : D.i .u8 (IntKind.u8.wrap (IntKind.i64.wrap (128 + (m : Int).tmod 128))) = byteD (u8 (128 + m % 128)) := by
        rw [show (128 + (m : Int).tmod 128) = ((128 + m % 128 : Nat) : Int) from rfl, w64 (by omega) (by omega), wrapU8 _ (by omega)]
      simp [wk, vk, h0, h3, e1]
      refine AppW_use (ap22 rfl htp rfl (by simp) (by simp; omega)) ?_
      simp [wk, vk]
      refine hK _ (CW_reg1 fun K' hK => ?_)
      have e2 : IntKind.i64.wrap ((m : Int) / 128) = (m : Int) / 128 := w64 (by omega) (by omega)
      simp [wk, vk, h0, e2]
      refine hK _ (hn _ (hN (m / 128) _ (by omega) ⟨by simp [upd], l ++ [u8 (128 + m % 128)], c, by simp [upd], fun _ => by simp [upd], ?_, by omega⟩))
      rw [hn2, numB_big hb]
      simp
    · have hbi : ¬ (127 : Int) < (m : Int) := by omega
      refine CW_seq1 (CW_reg fun K' hK => ?_)
      simp [wk, vk, h0, h3, hbi]
      refine hK _ (CW_no rfl (CW_ex (hX _ (CW_reg fun K' hK => ?_))))
      simp [wk, vk, h0, h3, wrapU8 m (by omega)]
      refine AppW_use (ap22 rfl htp rfl (by simp) (by simp; omega)) ?_
      simp [wk, vk]
      refine hK _ (CW_reg fun K' hK => ?_)
      simp [wk, vk]
      refine hK _ (CW_rt (ends_ret ?_))
      rw [hn2, numB_small hb]
      simp [Tryz.results49, resD, resL, resD1, okD_some, gD_some, upd, er_DO, dBytes, ek, er_byte]
end Go.Proofs.YtobamidecbfgpaaGreatDoor
namespace Go.Proofs.YtobamidecbfgpaaGreatDoor
open Go Go.Sh Go.RowKit
set_option linter.unusedVariables false
set_option linter.unusedSimpArgs false
set_option maxRecDepth 10000
variable {W : World}
theorem join_ok (a b : Str) (h : a.length + b.length ≤ 100000000) : Fc T W 139 [dBytes a, dBytes b] (dBytes (a ++ b)) := by
  refine Fc_intro (thr := thr) hmix Tryz.func139 rfl (by kernel_rfl) (by simp [Tryz.ntmps139]) ?_
  refine CW_reg fun K_ hK => ?_
  simp [wk, vk, ek, thr]
  refine hK _ ?_
  refine CW_reg fun K_ hK => ?_
  simp [wk, vk, ek, thr]
  refine hK _ ?_
  refine CW_reg fun K_ hK => ?_
  simp [wk, vk, ek, thr]
  obtain ⟨g1, tp1, c1, ha1, ht1, _, _⟩ := apx22 (tp := fun _ => none) (c := 0) (g := 0) (s := .nil) (x := dBytes a) (es := []) rfl (by simp) (elems_DO _ _ _) (by simp; omega)
  refine AppW_use (ha1) ?_
  simp [wk, vk, ek, thr]
  refine hK _ ?_
  refine CW_reg fun K_ hK => ?_
  simp [wk, vk, ek, thr]
  obtain ⟨g2, tp2, c2, ha2, ht2, _, _⟩ := apx22 (tp := tp1) (c := c1) (g := g1) (s := DO 1 (List.map byteD a) (.op 22 g1)) (x := dBytes b) (es := List.map byteD a) rfl (by simpa using ht1) (elems_DO _ _ _) (by simp; omega)
  refine AppW_use (ha2) ?_
  simp [wk, vk, ek, thr]
  refine hK _ ?_
  refine CW_reg fun K_ hK => ?_
  simp [wk, vk, ek, thr]
  refine hK _ ?_
  refine CW_rt ?_
  refine ends_ret ?_
  simp [Tryz.results139, resD, resL, resD1, vk, wk, ek, dBytes]
theorem join_ok2 (a b : Str) (h : a.length + b.length ≤ 100000000) : Fc T W 139 [dBytes a, .sl 1 (b.map byteD) .shut] (dBytes (a ++ b)) := by
  refine Fc_intro (thr := thr) hmix Tryz.func139 rfl (by kernel_rfl) (by simp [Tryz.ntmps139]) ?_
  refine CW_reg fun K_ hK => ?_
  simp [wk, vk, ek, thr]
  refine hK _ ?_
  refine CW_reg fun K_ hK => ?_
  simp [wk, vk, ek, thr]
  refine hK _ ?_
  refine CW_reg fun K_ hK => ?_
  simp [wk, vk, ek, thr]
  obtain ⟨g1, tp1, c1, ha1, ht1, _, _⟩ := apx22 (tp := fun _ => none) (c := 0) (g := 0) (s := .nil) (x := dBytes a) (es := []) rfl (by simp) (elems_DO _ _ _) (by simp; omega)
  refine AppW_use (ha1) ?_
  simp [wk, vk, ek, thr]
  refine hK _ ?_
  refine CW_reg fun K_ hK => ?_
  simp [wk, vk, ek, thr]
  obtain ⟨g2, tp2, c2, ha2, ht2, _, _⟩ := apx22 (tp := tp1) (c := c1) (g := g1) (s := DO 1 (List.map byteD a) (.op 22 g1)) (x := .sl 1 (b.map byteD) .shut) (es := List.map byteD a) (es2 := b.map byteD) rfl (by simpa using ht1) (by simp [elems]) (by simp; omega)
  refine AppW_use (ha2) ?_
  simp [wk, vk, ek, thr]
  refine hK _ ?_
  refine CW_reg fun K_ hK => ?_
  simp [wk, vk, ek, thr]
  refine hK _ ?_
  refine CW_rt ?_
  refine ends_ret ?_
  simp [Tryz.results139, resD, resL, resD1, vk, wk, ek, dBytes]
def textB (s : Str) : Str := numB s.length ++ s
theorem Text_ok (s : Str) (h : s.length ≤ 1000) : Fc T W 118 [.s s] (dBytes (textB s)) := by
  have h8 := numB_len8 (n := s.length) (by omega)
  have hc := cv9_22 s (by omega)
  refine Fc_intro (thr := thr) hmix Tryz.func118 rfl (by kernel_rfl) (by simp [Tryz.ntmps118]) ?_
  refine CW_reg fun K_ hK => ?_
  simp [wk, vk, ek, thr]
  refine hK _ ?_
  refine CW_reg fun K_ hK => ?_
  simp [wk, vk, ek, thr, hc]
  refine CallW_use (num_ok s.length (by omega)) ?_
  simp [wk, vk, ek, thr, hc]
  refine CallW_use (join_ok2 (numB s.length) s (by omega)) ?_
  simp [wk, vk, ek, thr, hc]
  refine hK _ ?_
  refine CW_rt ?_
  refine ends_ret ?_
  simp [Tryz.results118, resD, resL, resD1, vk, wk, ek, textB]
theorem textB_len (s : Str) (h : s.length ≤ 1000) : (textB s).length ≤ 1008 := by
  have := numB_len8 (n := s.length) (by omega)
  simp [textB]; omega
theorem textB_pos (s : Str) : 0 < (textB s).length := by
  have := numB_pos s.length
  simp [textB]; omega
theorem num34 (l : Str) (n g : Nat) (tp : Nat → Option (Nat × Nat)) (c : Nat) (hg : l ≠ [] → tp 22 = some (g, l.length)) (hn : n ≤ 9007199254740992) (hl : l.length ≤ 100000) : Ft T W 34 [DO 1 (l.map byteD) (.op 22 g), .i .i64 n] tp c (DO 1 ((l ++ numB n).map byteD) (.op 22 c)) (upd tp 22 (some (c, (l ++ numB n).length))) (c + 1) := by
  have h8 := numB_len8 hn
  have h1 := numB_pos n
  refine Ft_intro (thr := thr) hmix Tryz.func34 rfl (by kernel_rfl) (by simp [Tryz.ntmps34]) (by omega) ?_
  refine CW_reg fun K_ hK => ?_
  simp [wk, vk, ek, thr]
  refine hK _ ?_
  refine CW_reg fun K_ hK => ?_
  simp [wk, vk, ek, thr]
  refine CallW_use (num_ok n hn) ?_
  simp [wk, vk, ek, thr]
  refine hK _ ?_
  refine CW_reg fun K_ hK => ?_
  simp [wk, vk, ek, thr]
  refine AppW_use (ap22 (es := l.map byteD) (g := g) rfl (by simpa using hg) (elems_DO _ _ _) (by intro e; rw [List.map_eq_nil_iff] at e; rw [e] at h1; exact absurd h1 (Nat.lt_irrefl _)) (by simp; omega)) ?_
  simp [wk, vk, ek, thr]
  refine hK _ ?_
  refine CW_reg fun K_ hK => ?_
  simp [wk, vk, ek, thr]
  refine hK _ ?_
  refine CW_rt ?_
  refine ends_ret ?_
  simp [Tryz.results34, resD, resL, resD1, vk, wk, ek, erp_DO]
theorem num81 (l : Str) (n g : Nat) (tp : Nat → Option (Nat × Nat)) (c : Nat) (hg : l ≠ [] → tp 22 = some (g, l.length)) (hn : n ≤ 9007199254740992) (hl : l.length ≤ 100000) : Ft T W 81 [DO 1 (l.map byteD) (.op 22 g), .i .i64 n] tp c (DO 1 ((l ++ numB n).map byteD) (.op 22 c)) (upd tp 22 (some (c, (l ++ numB n).length))) (c + 1) := by
  have h8 := numB_len8 hn
  have h1 := numB_pos n
  refine Ft_intro (thr := thr) hmix Tryz.func81 rfl (by kernel_rfl) (by simp [Tryz.ntmps81]) (by omega) ?_
  refine CW_reg fun K_ hK => ?_
  simp [wk, vk, ek, thr]
  refine hK _ ?_
  refine CW_reg fun K_ hK => ?_
  simp [wk, vk, ek, thr]
  refine CallW_use (num_ok n hn) ?_
  simp [wk, vk, ek, thr]
  refine hK _ ?_
  refine CW_reg fun K_ hK => ?_
  simp [wk, vk, ek, thr]
  refine AppW_use (ap22 (es := l.map byteD) (g := g) rfl (by simpa using hg) (elems_DO _ _ _) (by intro e; rw [List.map_eq_nil_iff] at e; rw [e] at h1; exact absurd h1 (Nat.lt_irrefl _)) (by simp; omega)) ?_
  simp [wk, vk, ek, thr]
  refine hK _ ?_
  refine CW_reg fun K_ hK => ?_
  simp [wk, vk, ek, thr]
  refine hK _ ?_
  refine CW_rt ?_
  refine ends_ret ?_
  simp [Tryz.results81, resD, resL, resD1, vk, wk, ek, erp_DO]
theorem num87 (l : Str) (n g : Nat) (tp : Nat → Option (Nat × Nat)) (c : Nat) (hg : l ≠ [] → tp 22 = some (g, l.length)) (hn : n ≤ 9007199254740992) (hl : l.length ≤ 100000) : Ft T W 87 [DO 1 (l.map byteD) (.op 22 g), .i .i64 n] tp c (DO 1 ((l ++ numB n).map byteD) (.op 22 c)) (upd tp 22 (some (c, (l ++ numB n).length))) (c + 1) := by
  have h8 := numB_len8 hn
  have h1 := numB_pos n
  refine Ft_intro (thr := thr) hmix Tryz.func87 rfl (by kernel_rfl) (by simp [Tryz.ntmps87]) (by omega) ?_
  refine CW_reg fun K_ hK => ?_
  simp [wk, vk, ek, thr]
  refine hK _ ?_
  refine CW_reg fun K_ hK => ?_
  simp [wk, vk, ek, thr]
  refine CallW_use (num_ok n hn) ?_
  simp [wk, vk, ek, thr]
  refine hK _ ?_
  refine CW_reg fun K_ hK => ?_
  simp [wk, vk, ek, thr]
  refine AppW_use (ap22 (es := l.map byteD) (g := g) rfl (by simpa using hg) (elems_DO _ _ _) (by intro e; rw [List.map_eq_nil_iff] at e; rw [e] at h1; exact absurd h1 (Nat.lt_irrefl _)) (by simp; omega)) ?_
  simp [wk, vk, ek, thr]
  refine hK _ ?_
  refine CW_reg fun K_ hK => ?_
  simp [wk, vk, ek, thr]
  refine hK _ ?_
  refine CW_rt ?_
  refine ends_ret ?_
  simp [Tryz.results87, resD, resL, resD1, vk, wk, ek, erp_DO]
theorem num92 (l : Str) (n g : Nat) (tp : Nat → Option (Nat × Nat)) (c : Nat) (hg : l ≠ [] → tp 22 = some (g, l.length)) (hn : n ≤ 9007199254740992) (hl : l.length ≤ 100000) : Ft T W 92 [DO 1 (l.map byteD) (.op 22 g), .i .i64 n] tp c (DO 1 ((l ++ numB n).map byteD) (.op 22 c)) (upd tp 22 (some (c, (l ++ numB n).length))) (c + 1) := by
  have h8 := numB_len8 hn
  have h1 := numB_pos n
  refine Ft_intro (thr := thr) hmix Tryz.func92 rfl (by kernel_rfl) (by simp [Tryz.ntmps92]) (by omega) ?_
  refine CW_reg fun K_ hK => ?_
  simp [wk, vk, ek, thr]
  refine hK _ ?_
  refine CW_reg fun K_ hK => ?_
  simp [wk, vk, ek, thr]
  refine CallW_use (num_ok n hn) ?_
  simp [wk, vk, ek, thr]
  refine hK _ ?_
  refine CW_reg fun K_ hK => ?_
  simp [wk, vk, ek, thr]
  refine AppW_use (ap22 (es := l.map byteD) (g := g) rfl (by simpa using hg) (elems_DO _ _ _) (by intro e; rw [List.map_eq_nil_iff] at e; rw [e] at h1; exact absurd h1 (Nat.lt_irrefl _)) (by simp; omega)) ?_
  simp [wk, vk, ek, thr]
  refine hK _ ?_
  refine CW_reg fun K_ hK => ?_
  simp [wk, vk, ek, thr]
  refine hK _ ?_
  refine CW_rt ?_
  refine ends_ret ?_
  simp [Tryz.results92, resD, resL, resD1, vk, wk, ek, erp_DO]
theorem text80 (l s : Str) (g : Nat) (tp : Nat → Option (Nat × Nat)) (c : Nat) (hg : l ≠ [] → tp 22 = some (g, l.length)) (hn : s.length ≤ 1000) (hl : l.length ≤ 100000) : Ft T W 80 [DO 1 (l.map byteD) (.op 22 g), .s s] tp c (DO 1 ((l ++ textB s).map byteD) (.op 22 c)) (upd tp 22 (some (c, (l ++ textB s).length))) (c + 1) := by
  have h8 := textB_len s hn
  have h1 := textB_pos s
  refine Ft_intro (thr := thr) hmix Tryz.func80 rfl (by kernel_rfl) (by simp [Tryz.ntmps80]) (by omega) ?_
  refine CW_reg fun K_ hK => ?_
  simp [wk, vk, ek, thr]
  refine hK _ ?_
  refine CW_reg fun K_ hK => ?_
  simp [wk, vk, ek, thr]
  refine CallW_use (Text_ok s hn) ?_
  simp [wk, vk, ek, thr]
  refine hK _ ?_
  refine CW_reg fun K_ hK => ?_
  simp [wk, vk, ek, thr]
  refine AppW_use (ap22 (es := l.map byteD) (g := g) rfl (by simpa using hg) (elems_DO _ _ _) (by intro e; rw [List.map_eq_nil_iff] at e; rw [e] at h1; exact absurd h1 (Nat.lt_irrefl _)) (by simp; omega)) ?_
  simp [wk, vk, ek, thr]
  refine hK _ ?_
  refine CW_reg fun K_ hK => ?_
  simp [wk, vk, ek, thr]
  refine hK _ ?_
  refine CW_rt ?_
  refine ends_ret ?_
  simp [Tryz.results80, resD, resL, resD1, vk, wk, ek, erp_DO]
theorem text86 (l s : Str) (g : Nat) (tp : Nat → Option (Nat × Nat)) (c : Nat) (hg : l ≠ [] → tp 22 = some (g, l.length)) (hn : s.length ≤ 1000) (hl : l.length ≤ 100000) : Ft T W 86 [DO 1 (l.map byteD) (.op 22 g), .s s] tp c (DO 1 ((l ++ textB s).map byteD) (.op 22 c)) (upd tp 22 (some (c, (l ++ textB s).length))) (c + 1) := by
  have h8 := textB_len s hn
  have h1 := textB_pos s
  refine Ft_intro (thr := thr) hmix Tryz.func86 rfl (by kernel_rfl) (by simp [Tryz.ntmps86]) (by omega) ?_
  refine CW_reg fun K_ hK => ?_
  simp [wk, vk, ek, thr]
  refine hK _ ?_
  refine CW_reg fun K_ hK => ?_
  simp [wk, vk, ek, thr]
  refine CallW_use (Text_ok s hn) ?_
  simp [wk, vk, ek, thr]
  refine hK _ ?_
  refine CW_reg fun K_ hK => ?_
  simp [wk, vk, ek, thr]
  refine AppW_use (ap22 (es := l.map byteD) (g := g) rfl (by simpa using hg) (elems_DO _ _ _) (by intro e; rw [List.map_eq_nil_iff] at e; rw [e] at h1; exact absurd h1 (Nat.lt_irrefl _)) (by simp; omega)) ?_
  simp [wk, vk, ek, thr]
  refine hK _ ?_
  refine CW_reg fun K_ hK => ?_
  simp [wk, vk, ek, thr]
  refine hK _ ?_
  refine CW_rt ?_
  refine ends_ret ?_
  simp [Tryz.results86, resD, resL, resD1, vk, wk, ek, erp_DO]
theorem text93 (l s : Str) (g : Nat) (tp : Nat → Option (Nat × Nat)) (c : Nat) (hg : l ≠ [] → tp 22 = some (g, l.length)) (hn : s.length ≤ 1000) (hl : l.length ≤ 100000) : Ft T W 93 [DO 1 (l.map byteD) (.op 22 g), .s s] tp c (DO 1 ((l ++ textB s).map byteD) (.op 22 c)) (upd tp 22 (some (c, (l ++ textB s).length))) (c + 1) := by
  have h8 := textB_len s hn
  have h1 := textB_pos s
  refine Ft_intro (thr := thr) hmix Tryz.func93 rfl (by kernel_rfl) (by simp [Tryz.ntmps93]) (by omega) ?_
  refine CW_reg fun K_ hK => ?_
  simp [wk, vk, ek, thr]
  refine hK _ ?_
  refine CW_reg fun K_ hK => ?_
  simp [wk, vk, ek, thr]
  refine CallW_use (Text_ok s hn) ?_
  simp [wk, vk, ek, thr]
  refine hK _ ?_
  refine CW_reg fun K_ hK => ?_
  simp [wk, vk, ek, thr]
  refine AppW_use (ap22 (es := l.map byteD) (g := g) rfl (by simpa using hg) (elems_DO _ _ _) (by intro e; rw [List.map_eq_nil_iff] at e; rw [e] at h1; exact absurd h1 (Nat.lt_irrefl _)) (by simp; omega)) ?_
  simp [wk, vk, ek, thr]
  refine hK _ ?_
  refine CW_reg fun K_ hK => ?_
  simp [wk, vk, ek, thr]
  refine hK _ ?_
  refine CW_rt ?_
  refine ends_ret ?_
  simp [Tryz.results93, resD, resL, resD1, vk, wk, ek, erp_DO]
end Go.Proofs.YtobamidecbfgpaaGreatDoor
