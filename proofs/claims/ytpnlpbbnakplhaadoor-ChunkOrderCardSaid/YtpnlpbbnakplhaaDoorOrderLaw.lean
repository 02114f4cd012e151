/- ChunkOrder: the law's walk. -/
import Derived.Test.YtpnlpbbnakplhaaDoorOrderPure
namespace Go.Proofs.YtpnlpbbnakplhaaDoor
open Go.RowKit Go.Proofs.YtpnlpbbnakplhaaDoorW.PrintWords Go.Proofs.YtpnlpbbnakplhaaDoorW.PrintLast Go.Proofs.YtpnlpbbnakplhaaDoorW.PrintMore
set_option linter.unusedVariables false
set_option maxRecDepth 100000 in
set_option maxHeartbeats 4000000 in
theorem chunkOrder.walk (A : Option Addr) (c : Nat) (l : List Int) (n x2 x3 x4 : Int) (w : World) (hG : Glob w) (hl : l.length ≤ 140737488351232) (h0 : 0 ≤ n) (h1 : n < 65536) (h2 : 0 ≤ x2 ∧ x2 < 256) (h3 : 0 ≤ x3 ∧ x3 < 256) (h4 : 0 ≤ x4 ∧ x4 < 256) (hr : Reads w A l) (hc : l.length ≤ c) :
    Calls Tryd.prog 8 #[.slice A l.length c, .int .u16 n, .int .u8 x2, .int .u8 x3, .int .u8 x4] w fun e w' => e = .returned (.bool true) ∧ Below w.heap.size w w' := by
  obtain ⟨d, hdl, hdb, hdata⟩ := data_calls A c l n w hl h0 h1 hr hc
  have HG := Aside0.mk hG
  have HD := Aside0.mk hdata
  have HDB := Aside0.mk hdb
  have hwl : (ChunkPure.wrap Z d).length = 12 + d.length + 7 * ((d.length + 99) / 100) + 32 := ChunkPure.wrap_length Z d
  have hwl2 : (ChunkPure.wrap Z d).length ≤ 1000 := by omega
  have HWL := Aside0.mk hwl2
  have HWB := Aside0.mk (bytes_wrap d hdb (by omega))
  obtain ⟨k, hk⟩ : ∃ k : Nat, k = (ChunkPure.pieces Z d).length := ⟨_, rfl⟩
  have hcd : countOf (d.length : Int) = (k : Int) := by rw [hk, ChunkPure.pieces_count]; unfold countOf; rw [if_pos (by omega)]; omega
  have hkl : k ≤ 10 := by rw [hk, ChunkPure.pieces_count]; omega
  have HK := Aside0.mk hk
  have HDL := Aside0.mk hdl
  clear hG hdata hwl hwl2 hr hk hdb
  go_enter Tryd.func8, Tryd.ntmps8
  go_wp2_with fail
  refine HD.out.mono ?_
  rintro e w1 ⟨v1, rfl, ho1, hb1⟩
  obtain ⟨A1, c1, rfl⟩ := Kd.R_slice ho1
  have hrd1 := Kd.R_reads' ho1
  have HB1 := Aside0.mk hb1
  have HC1 := Aside0.mk hrd1.2.1
  have HR1 := Aside0.mk hrd1.2.2
  clear hb1 ho1 hrd1
  by_cases hk4 : k < 4
  · have hd4 : decide ((k : Int) < 4) = true := decide_eq_true (by omega)
    go_wp2_with (go_at_call 16; refine (chunk_Pieces_calls _ _).mono ?_; rintro e wp ⟨rfl, rfl⟩)
    refine (known.calls _ (HG.out.below HB1.out)).mono ?_
    rintro e w5 ⟨rfl, hb5⟩
    have HB5 := Aside0.mk (below_step HB1.out hb5)
    clear hb5
    go_wp2_with fail
    go_ret
    exact ⟨rfl, HB5.out⟩
  have hd4 : decide ((k : Int) < 4) = false := decide_eq_false (by omega)
  have hkp : 0 < (k : Int) - 2 := by omega
  have e2 := Int.emod_nonneg x2 (show (k : Int) - 2 ≠ 0 by omega)
  have e2' := Int.emod_lt_of_pos x2 hkp
  have e3 := Int.emod_nonneg x3 (show (k : Int) - 2 ≠ 0 by omega)
  have e3' := Int.emod_lt_of_pos x3 hkp
  have w2 : wrap64 (1 + x2 % ((k : Int) - 2)) = 1 + x2 % ((k : Int) - 2) := wrap_small _ (by omega) (by omega)
  have w3 : wrap64 (1 + x3 % ((k : Int) - 2)) = 1 + x3 % ((k : Int) - 2) := wrap_small _ (by omega) (by omega)
  obtain ⟨a, ha⟩ : ∃ a : Nat, 1 + x2 % ((k : Int) - 2) = a := ⟨(1 + x2 % ((k : Int) - 2)).toNat, by omega⟩
  obtain ⟨b, hb⟩ : ∃ a : Nat, 1 + x3 % ((k : Int) - 2) = a := ⟨(1 + x3 % ((k : Int) - 2)).toNat, by omega⟩
  have ha1 : 1 ≤ a ∧ a + 2 ≤ k := by omega
  have hb1 : 1 ≤ b ∧ b + 2 ≤ k := by omega
  replace w2 := w2.trans ha
  replace w3 := w3.trans hb
  obtain ⟨h, hh⟩ : ∃ h : Nat, x4 % 3 = (h : Int) := ⟨(x4 % 3).toNat, by omega⟩
  have hh3 : h < 3 := by omega
  have HA1 := Aside0.mk ha1
  have HB1b := Aside0.mk hb1
  have hz2 : ¬ ((k : Int) - 2 = 0) := by omega
  clear e2 e2' e3 e3' ha hb hkp ha1 hb1
  by_cases hab : a = b
  · have hdab : ((a : Int) == (b : Int)) = true := by rw [hab]; simp
    go_wp2_with (go_at_call 16; refine (chunk_Pieces_calls _ _).mono ?_; rintro e wp ⟨rfl, rfl⟩)
    refine (known.calls _ (HG.out.below HB1.out)).mono ?_
    rintro e w5 ⟨rfl, hb5⟩
    have HB5 := Aside0.mk (below_step HB1.out hb5)
    clear hb5
    go_wp2_with fail
    go_ret
    exact ⟨rfl, HB5.out⟩
  have HAB := Aside0.mk hab
  have hdab : ((a : Int) == (b : Int)) = false := by rw [beq_eq_false_iff_ne]; omega
  clear hab
  go_wp2_with (go_at_call 16; refine (chunk_Pieces_calls _ _).mono ?_; rintro e wp ⟨rfl, rfl⟩)
  rw [w2, w3]
  go_loopw [15, 16] (fun v15 v16 wr => ∃ i : Nat, i ≤ k ∧ v16 = .int .i64 i ∧ Aside0 (Row wr wp.heap.size (fun _ => True) v15 (ordO d a b h i)) ∧ Aside0 (Below wp.heap.size wp wr)) (fun _ v16 _ => k - (intOf v16).toNat)
  case atStart => exact ⟨0, by omega, rfl, ⟨Kd.R_nil _ _ _ _ _⟩, ⟨Below.refl _ _⟩⟩
  case round =>
    clear hdab w2 w3 hd4
    obtain ⟨i, hi, rfl, HO, HB⟩ := hrel
    have HRD := Aside0.mk (Kd.C_below HR1.out HB.out)
    have HBW := Aside0.mk (below_step HB1.out HB.out)
    by_cases hik : i = k
    · subst hik
      obtain ⟨er, hun⟩ := order_err d HDL.out a b h HA1.out.1 (by have := HA1.out; have := HK.out; omega) HB1b.out.1 (by have := HB1b.out; have := HK.out; omega) HAB.out hh3
      rw [← HK.out] at hun
      have her := ChunkPure.unwrap_errors Z _ _ hun
      have hne : ((er : Int) == 0) = false := by rw [beq_eq_false_iff_ne]; omega
      have hnb : ((er : Int) != 0) = true := by simp [hne]; omega
      obtain ⟨A4, c4, rfl⟩ := Kd.R_slice HO.out
      have hrd := Kd.R_reads' HO.out
      have hu := chunk_Unwrap_calls A4 c4 (ordO d a b h i) wr (HG.out.below HBW.out) hrd.2.2 hrd.2.1 (ordO_bytes d HWB.out a b h i) (by have := ordO_len d HWL.out a b h i; omega)
      unfold RU at hu
      rw [hun] at hu
      have HU := Aside0.mk hu
      clear hu hrd hun her
      have eu : ((errU (Except.error er) : Nat) : Int) = (er : Int) := rfl
      rw [eu] at HU
      go_wp2_with fail
      refine HU.out.mono ?_
      rintro e w5 ⟨v5, rfl, _, hb5⟩
      have HB5 := Aside0.mk (below_step HBW.out hb5)
      clear hb5
      go_wp2_with fail
      refine (known.calls _ (HG.out.below HB5.out)).mono ?_
      rintro e w6 ⟨rfl, hb6⟩
      have HB6 := Aside0.mk (below_step HB5.out hb6)
      clear hb6
      go_wp2_with fail
      go_ret
      exact ⟨rfl, HB6.out⟩
    · have hlt : decide ((i : Int) < (k : Int)) = true := decide_eq_true (by omega)
      have HI := Aside0.mk (show i < k by omega)
      have hOl := Aside0.mk (ordO_len d HWL.out a b h i)
      obtain ⟨A4, c4, rfl⟩ := Kd.R_slice HO.out
      rcases (show h = 0 ∨ h = 1 ∨ h = 2 by omega) with rfl | rfl | rfl
      · replace hh : x4 % 3 = 0 := hh
        clear hh3
        by_cases hia : i = a
        · have q1 : ((i : Int) == (a : Int)) = true := by rw [hia]; simp
          have q2 : ((i : Int) == (b : Int)) = false := by rw [beq_eq_false_iff_ne]; have := HAB.out; omega
          have HC := Aside0.mk (show ordC d a b 0 i = pieceOf d b by unfold ordC; rw [if_pos hia]; simp)
          clear hia
          go_wp2_with (first
            | (go_at_call 20; refine (chunk_Piece_new A1 c1 d _ _ (HG.out.below HBW.out) HRD.out HC1.out (by have := HDL.out; omega)).mono ?_; rintro e w5 ⟨Av, cv, rfl, hcv, hrv, hb5, hfr⟩; have HFR := Aside0.mk hfr; replace HRD := Aside0.mk (Kd.C_below HRD.out hb5); replace HBW := Aside0.mk (below_step HBW.out hb5); replace HO := Aside0.mk (Kd.R_below HO.out hb5); replace HB := Aside0.mk (below_step HB.out hb5); have HRV := Aside0.mk hrv; clear hrv hb5 hfr)
            | ((with_reducible refine gate_builtin (b := .append) (xs := #[.tmp 83, .tmp 84]) rfl ?_); at_builtin; refine Kd.R_append_rows (Kd.int .u8) (w0 := wp) wp.heap.size rfl (.tmp 83) (.tmp 84) 22 5 (.int .u8 0) 1 rfl Tryd.underlying22 info5 rfl (by decide) (by omega) (.slice A4 (ordO d a b 0 i).length c4) (ordO d a b 0 i) (pieceOf d b) Av (pieceOf d b).length cv (fun _ => True) (fun _ => False) rfl rfl ?aO ?aR (fun _ _ h => h) (fun _ h => h.elim) ?aF ?aB ?aS ?aL ?_; (case aR => exact HRV.out); (case aB => exact HB.out); (case aF => exact (fun _ _ => trivial)); (case aO => exact HO.out); (case aS => exact HB.out.size); (case aL => have := piece_len d b; have := HWL.out; have := hOl.out; omega); intro v9 w9 ho9 hb9 hg9 hat9; have HO9 := Aside0.mk ho9; have HB9 := Aside0.mk hb9; clear ho9 hb9 hg9 hat9))
          go_roundw
          case rel => exact ⟨i + 1, HI.out, by simp, ⟨by rw [ordO, HC.out]; exact HO9.out⟩, HB9⟩
          case measure => have := HI.out; simp [intOf]; omega
        by_cases hib : i = b
        · have q1 : ((i : Int) == (a : Int)) = false := by rw [beq_eq_false_iff_ne]; omega
          have q2 : ((i : Int) == (b : Int)) = true := by rw [hib]; simp
          have HC := Aside0.mk (show ordC d a b 0 i = pieceOf d a by unfold ordC; rw [if_neg hia, if_pos ⟨hib, rfl⟩])
          clear hia hib
          go_wp2_with (first
            | (go_at_call 20; refine (chunk_Piece_new A1 c1 d _ _ (HG.out.below HBW.out) HRD.out HC1.out (by have := HDL.out; omega)).mono ?_; rintro e w5 ⟨Av, cv, rfl, hcv, hrv, hb5, hfr⟩; have HFR := Aside0.mk hfr; replace HRD := Aside0.mk (Kd.C_below HRD.out hb5); replace HBW := Aside0.mk (below_step HBW.out hb5); replace HO := Aside0.mk (Kd.R_below HO.out hb5); replace HB := Aside0.mk (below_step HB.out hb5); have HRV := Aside0.mk hrv; clear hrv hb5 hfr)
            | ((with_reducible refine gate_builtin (b := .append) (xs := #[.tmp 83, .tmp 84]) rfl ?_); at_builtin; refine Kd.R_append_rows (Kd.int .u8) (w0 := wp) wp.heap.size rfl (.tmp 83) (.tmp 84) 22 5 (.int .u8 0) 1 rfl Tryd.underlying22 info5 rfl (by decide) (by omega) (.slice A4 (ordO d a b 0 i).length c4) (ordO d a b 0 i) (pieceOf d a) Av (pieceOf d a).length cv (fun _ => True) (fun _ => False) rfl rfl ?aO ?aR (fun _ _ h => h) (fun _ h => h.elim) ?aF ?aB ?aS ?aL ?_; (case aR => exact HRV.out); (case aB => exact HB.out); (case aF => exact (fun _ _ => trivial)); (case aO => exact HO.out); (case aS => exact HB.out.size); (case aL => have := piece_len d a; have := HWL.out; have := hOl.out; omega); intro v9 w9 ho9 hb9 hg9 hat9; have HO9 := Aside0.mk ho9; have HB9 := Aside0.mk hb9; clear ho9 hb9 hg9 hat9))
          go_roundw
          case rel => exact ⟨i + 1, HI.out, by simp, ⟨by rw [ordO, HC.out]; exact HO9.out⟩, HB9⟩
          case measure => have := HI.out; simp [intOf]; omega
        · have q1 : ((i : Int) == (a : Int)) = false := by rw [beq_eq_false_iff_ne]; omega
          have q2 : ((i : Int) == (b : Int)) = false := by rw [beq_eq_false_iff_ne]; omega
          have HC := Aside0.mk (show ordC d a b 0 i = pieceOf d i by unfold ordC; rw [if_neg hia, if_neg (fun e => hib e.1)])
          clear hia hib
          go_wp2_with (first
            | (go_at_call 20; refine (chunk_Piece_new A1 c1 d _ _ (HG.out.below HBW.out) HRD.out HC1.out (by have := HDL.out; omega)).mono ?_; rintro e w5 ⟨Av, cv, rfl, hcv, hrv, hb5, hfr⟩; have HFR := Aside0.mk hfr; replace HRD := Aside0.mk (Kd.C_below HRD.out hb5); replace HBW := Aside0.mk (below_step HBW.out hb5); replace HO := Aside0.mk (Kd.R_below HO.out hb5); replace HB := Aside0.mk (below_step HB.out hb5); have HRV := Aside0.mk hrv; clear hrv hb5 hfr)
            | ((with_reducible refine gate_builtin (b := .append) (xs := #[.tmp 83, .tmp 84]) rfl ?_); at_builtin; refine Kd.R_append_rows (Kd.int .u8) (w0 := wp) wp.heap.size rfl (.tmp 83) (.tmp 84) 22 5 (.int .u8 0) 1 rfl Tryd.underlying22 info5 rfl (by decide) (by omega) (.slice A4 (ordO d a b 0 i).length c4) (ordO d a b 0 i) (pieceOf d i) Av (pieceOf d i).length cv (fun _ => True) (fun _ => False) rfl rfl ?aO ?aR (fun _ _ h => h) (fun _ h => h.elim) ?aF ?aB ?aS ?aL ?_; (case aR => exact HRV.out); (case aB => exact HB.out); (case aF => exact (fun _ _ => trivial)); (case aO => exact HO.out); (case aS => exact HB.out.size); (case aL => have := piece_len d i; have := HWL.out; have := hOl.out; omega); intro v9 w9 ho9 hb9 hg9 hat9; have HO9 := Aside0.mk ho9; have HB9 := Aside0.mk hb9; clear ho9 hb9 hg9 hat9))
          go_roundw
          case rel => exact ⟨i + 1, HI.out, by simp, ⟨by rw [ordO, HC.out]; exact HO9.out⟩, HB9⟩
          case measure => have := HI.out; simp [intOf]; omega
      · replace hh : x4 % 3 = 1 := hh
        clear hh3
        by_cases hia : i = a
        · have q1 : ((i : Int) == (a : Int)) = true := by rw [hia]; simp
          have q2 : ((i : Int) == (b : Int)) = false := by rw [beq_eq_false_iff_ne]; have := HAB.out; omega
          have HC := Aside0.mk (show ordC d a b 1 i = [] by unfold ordC; rw [if_pos hia]; simp)
          clear hia
          go_wp2_with ((go_at_call 20; refine (chunk_Piece_new A1 c1 d _ _ (HG.out.below HBW.out) HRD.out HC1.out (by have := HDL.out; omega)).mono ?_; rintro e w5 ⟨Av, cv, rfl, hcv, hrv, hb5, hfr⟩; have HFR := Aside0.mk hfr; replace HRD := Aside0.mk (Kd.C_below HRD.out hb5); replace HBW := Aside0.mk (below_step HBW.out hb5); replace HO := Aside0.mk (Kd.R_below HO.out hb5); replace HB := Aside0.mk (below_step HB.out hb5); have HRV := Aside0.mk hrv; clear hrv hb5 hfr))
          go_roundw
          case rel => exact ⟨i + 1, HI.out, by simp, ⟨by rw [ordO, HC.out, List.append_nil]; exact HO.out⟩, HB⟩
          case measure => have := HI.out; simp [intOf]; omega
        by_cases hib : i = b
        · have q1 : ((i : Int) == (a : Int)) = false := by rw [beq_eq_false_iff_ne]; omega
          have q2 : ((i : Int) == (b : Int)) = true := by rw [hib]; simp
          have HC := Aside0.mk (show ordC d a b 1 i = pieceOf d i by unfold ordC; rw [if_neg hia, if_neg (fun e => by omega)])
          clear hia hib
          go_wp2_with (first
            | (go_at_call 20; refine (chunk_Piece_new A1 c1 d _ _ (HG.out.below HBW.out) HRD.out HC1.out (by have := HDL.out; omega)).mono ?_; rintro e w5 ⟨Av, cv, rfl, hcv, hrv, hb5, hfr⟩; have HFR := Aside0.mk hfr; replace HRD := Aside0.mk (Kd.C_below HRD.out hb5); replace HBW := Aside0.mk (below_step HBW.out hb5); replace HO := Aside0.mk (Kd.R_below HO.out hb5); replace HB := Aside0.mk (below_step HB.out hb5); have HRV := Aside0.mk hrv; clear hrv hb5 hfr)
            | ((with_reducible refine gate_builtin (b := .append) (xs := #[.tmp 83, .tmp 84]) rfl ?_); at_builtin; refine Kd.R_append_rows (Kd.int .u8) (w0 := wp) wp.heap.size rfl (.tmp 83) (.tmp 84) 22 5 (.int .u8 0) 1 rfl Tryd.underlying22 info5 rfl (by decide) (by omega) (.slice A4 (ordO d a b 1 i).length c4) (ordO d a b 1 i) (pieceOf d i) Av (pieceOf d i).length cv (fun _ => True) (fun _ => False) rfl rfl ?aO ?aR (fun _ _ h => h) (fun _ h => h.elim) ?aF ?aB ?aS ?aL ?_; (case aR => exact HRV.out); (case aB => exact HB.out); (case aF => exact (fun _ _ => trivial)); (case aO => exact HO.out); (case aS => exact HB.out.size); (case aL => have := piece_len d i; have := HWL.out; have := hOl.out; omega); intro v9 w9 ho9 hb9 hg9 hat9; have HO9 := Aside0.mk ho9; have HB9 := Aside0.mk hb9; clear ho9 hb9 hg9 hat9))
          go_roundw
          case rel => exact ⟨i + 1, HI.out, by simp, ⟨by rw [ordO, HC.out]; exact HO9.out⟩, HB9⟩
          case measure => have := HI.out; simp [intOf]; omega
        · have q1 : ((i : Int) == (a : Int)) = false := by rw [beq_eq_false_iff_ne]; omega
          have q2 : ((i : Int) == (b : Int)) = false := by rw [beq_eq_false_iff_ne]; omega
          have HC := Aside0.mk (show ordC d a b 1 i = pieceOf d i by unfold ordC; rw [if_neg hia, if_neg (fun e => hib e.1)])
          clear hia hib
          go_wp2_with (first
            | (go_at_call 20; refine (chunk_Piece_new A1 c1 d _ _ (HG.out.below HBW.out) HRD.out HC1.out (by have := HDL.out; omega)).mono ?_; rintro e w5 ⟨Av, cv, rfl, hcv, hrv, hb5, hfr⟩; have HFR := Aside0.mk hfr; replace HRD := Aside0.mk (Kd.C_below HRD.out hb5); replace HBW := Aside0.mk (below_step HBW.out hb5); replace HO := Aside0.mk (Kd.R_below HO.out hb5); replace HB := Aside0.mk (below_step HB.out hb5); have HRV := Aside0.mk hrv; clear hrv hb5 hfr)
            | ((with_reducible refine gate_builtin (b := .append) (xs := #[.tmp 83, .tmp 84]) rfl ?_); at_builtin; refine Kd.R_append_rows (Kd.int .u8) (w0 := wp) wp.heap.size rfl (.tmp 83) (.tmp 84) 22 5 (.int .u8 0) 1 rfl Tryd.underlying22 info5 rfl (by decide) (by omega) (.slice A4 (ordO d a b 1 i).length c4) (ordO d a b 1 i) (pieceOf d i) Av (pieceOf d i).length cv (fun _ => True) (fun _ => False) rfl rfl ?aO ?aR (fun _ _ h => h) (fun _ h => h.elim) ?aF ?aB ?aS ?aL ?_; (case aR => exact HRV.out); (case aB => exact HB.out); (case aF => exact (fun _ _ => trivial)); (case aO => exact HO.out); (case aS => exact HB.out.size); (case aL => have := piece_len d i; have := HWL.out; have := hOl.out; omega); intro v9 w9 ho9 hb9 hg9 hat9; have HO9 := Aside0.mk ho9; have HB9 := Aside0.mk hb9; clear ho9 hb9 hg9 hat9))
          go_roundw
          case rel => exact ⟨i + 1, HI.out, by simp, ⟨by rw [ordO, HC.out]; exact HO9.out⟩, HB9⟩
          case measure => have := HI.out; simp [intOf]; omega
      · replace hh : x4 % 3 = 2 := hh
        clear hh3
        by_cases hia : i = a
        · have q1 : ((i : Int) == (a : Int)) = true := by rw [hia]; simp
          have q2 : ((i : Int) == (b : Int)) = false := by rw [beq_eq_false_iff_ne]; have := HAB.out; omega
          have HC := Aside0.mk (show ordC d a b 2 i = pieceOf d i ++ pieceOf d i by unfold ordC; rw [if_pos hia]; simp [hia])
          have HX0 := Aside0.mk (piece_at d i (by have := HI.out; have := HK.out; omega)).1
          have HOB := Aside0.mk (show ∀ k, (Value.slice A4 (ordO d a b 2 i).length c4).ownBlock = some k → k < wr.heap.size from fun k hk => ((row_bound HO.out).1 k hk).2.2)
          clear hia
          go_wp2_with (first
            | (go_at_call 20; refine (chunk_Piece_new A1 c1 d _ _ (HG.out.below HBW.out) HRD.out HC1.out (by have := HDL.out; omega)).mono ?_; rintro e w5 ⟨Av, cv, rfl, hcv, hrv, hb5, hfr⟩; have HFR := Aside0.mk hfr; replace HRD := Aside0.mk (Kd.C_below HRD.out hb5); replace HBW := Aside0.mk (below_step HBW.out hb5); replace HO := Aside0.mk (Kd.R_below HO.out hb5); replace HB := Aside0.mk (below_step HB.out hb5); have HRV := Aside0.mk hrv; clear hrv hb5 hfr)
            | ((with_reducible refine gate_builtin (b := .append) (xs := #[.tmp 83, .tmp 84]) rfl ?_); at_builtin; refine Kd.R_append_rows (Kd.int .u8) (w0 := wp) wp.heap.size rfl (.tmp 83) (.tmp 84) 22 5 (.int .u8 0) 1 rfl Tryd.underlying22 info5 rfl (by decide) (by omega) (.slice A4 (ordO d a b 2 i).length c4) (ordO d a b 2 i) (pieceOf d i) Av (pieceOf d i).length cv (fun _ => True) (fun _ => False) rfl rfl ?aO ?aR (fun _ _ h => h) (fun _ h => h.elim) ?aF ?aB ?aS ?aL ?_; (case aR => exact HRV.out); (case aB => exact HB.out); (case aF => exact (fun _ _ => trivial)); (case aO => exact HO.out); (case aS => exact HB.out.size); (case aL => have := piece_len d i; have := HWL.out; have := hOl.out; omega); intro v9 w9 ho9 hb9 hg9 hat9; obtain ⟨ad, had, _⟩ := Kd.at_int HRV.out 0 (by omega) (by have := HX0.out; omega); subst had; have HRV9 := Aside0.mk (((Kept.refl (fun k => k = ad.block) w5).grown hg9 (fun k hk => .inl (fun e => by have h8 := HOB.out k hk; have h9 := HFR.out ad rfl; omega))).reads HRV.out rfl); have HO9 := Aside0.mk ho9; have HB9 := Aside0.mk hb9; clear ho9 hb9 hg9 hat9)
            | ((with_reducible refine gate_builtin (b := .append) (xs := #[.tmp 94, .tmp 95]) rfl ?_); at_builtin; refine Kd.R_append_rows (Kd.int .u8) (w0 := wp) wp.heap.size rfl (.tmp 94) (.tmp 95) 22 5 (.int .u8 0) 1 rfl Tryd.underlying22 info5 rfl (by decide) (by omega) v9 (ordO d a b 2 i ++ pieceOf d i) (pieceOf d i) (some ad) (pieceOf d i).length cv (fun _ => True) (fun _ => False) rfl rfl ?aO ?aR (fun _ _ h => h) (fun _ h => h.elim) ?aF ?aB ?aS ?aL ?_; (case aR => exact HRV9.out); (case aB => exact HB9.out); (case aF => exact (fun _ _ => trivial)); (case aO => exact HO9.out); (case aS => exact HB9.out.size); (case aL => rw [List.length_append]; have := piece_len d i; have := HWL.out; have := hOl.out; omega); intro v8 w8 ho8 hb8 hg8 hat8; have HO8 := Aside0.mk ho8; have HB8 := Aside0.mk hb8; clear ho8 hb8 hg8 hat8))
          go_roundw
          case rel => exact ⟨i + 1, HI.out, by simp, ⟨by rw [ordO, HC.out, ← List.append_assoc]; exact HO8.out⟩, HB8⟩
          case measure => have := HI.out; simp [intOf]; omega
        by_cases hib : i = b
        · have q1 : ((i : Int) == (a : Int)) = false := by rw [beq_eq_false_iff_ne]; omega
          have q2 : ((i : Int) == (b : Int)) = true := by rw [hib]; simp
          have HC := Aside0.mk (show ordC d a b 2 i = pieceOf d i by unfold ordC; rw [if_neg hia, if_neg (fun e => by omega)])
          clear hia hib
          go_wp2_with (first
            | (go_at_call 20; refine (chunk_Piece_new A1 c1 d _ _ (HG.out.below HBW.out) HRD.out HC1.out (by have := HDL.out; omega)).mono ?_; rintro e w5 ⟨Av, cv, rfl, hcv, hrv, hb5, hfr⟩; have HFR := Aside0.mk hfr; replace HRD := Aside0.mk (Kd.C_below HRD.out hb5); replace HBW := Aside0.mk (below_step HBW.out hb5); replace HO := Aside0.mk (Kd.R_below HO.out hb5); replace HB := Aside0.mk (below_step HB.out hb5); have HRV := Aside0.mk hrv; clear hrv hb5 hfr)
            | ((with_reducible refine gate_builtin (b := .append) (xs := #[.tmp 83, .tmp 84]) rfl ?_); at_builtin; refine Kd.R_append_rows (Kd.int .u8) (w0 := wp) wp.heap.size rfl (.tmp 83) (.tmp 84) 22 5 (.int .u8 0) 1 rfl Tryd.underlying22 info5 rfl (by decide) (by omega) (.slice A4 (ordO d a b 2 i).length c4) (ordO d a b 2 i) (pieceOf d i) Av (pieceOf d i).length cv (fun _ => True) (fun _ => False) rfl rfl ?aO ?aR (fun _ _ h => h) (fun _ h => h.elim) ?aF ?aB ?aS ?aL ?_; (case aR => exact HRV.out); (case aB => exact HB.out); (case aF => exact (fun _ _ => trivial)); (case aO => exact HO.out); (case aS => exact HB.out.size); (case aL => have := piece_len d i; have := HWL.out; have := hOl.out; omega); intro v9 w9 ho9 hb9 hg9 hat9; have HO9 := Aside0.mk ho9; have HB9 := Aside0.mk hb9; clear ho9 hb9 hg9 hat9))
          go_roundw
          case rel => exact ⟨i + 1, HI.out, by simp, ⟨by rw [ordO, HC.out]; exact HO9.out⟩, HB9⟩
          case measure => have := HI.out; simp [intOf]; omega
        · have q1 : ((i : Int) == (a : Int)) = false := by rw [beq_eq_false_iff_ne]; omega
          have q2 : ((i : Int) == (b : Int)) = false := by rw [beq_eq_false_iff_ne]; omega
          have HC := Aside0.mk (show ordC d a b 2 i = pieceOf d i by unfold ordC; rw [if_neg hia, if_neg (fun e => hib e.1)])
          clear hia hib
          go_wp2_with (first
            | (go_at_call 20; refine (chunk_Piece_new A1 c1 d _ _ (HG.out.below HBW.out) HRD.out HC1.out (by have := HDL.out; omega)).mono ?_; rintro e w5 ⟨Av, cv, rfl, hcv, hrv, hb5, hfr⟩; have HFR := Aside0.mk hfr; replace HRD := Aside0.mk (Kd.C_below HRD.out hb5); replace HBW := Aside0.mk (below_step HBW.out hb5); replace HO := Aside0.mk (Kd.R_below HO.out hb5); replace HB := Aside0.mk (below_step HB.out hb5); have HRV := Aside0.mk hrv; clear hrv hb5 hfr)
            | ((with_reducible refine gate_builtin (b := .append) (xs := #[.tmp 83, .tmp 84]) rfl ?_); at_builtin; refine Kd.R_append_rows (Kd.int .u8) (w0 := wp) wp.heap.size rfl (.tmp 83) (.tmp 84) 22 5 (.int .u8 0) 1 rfl Tryd.underlying22 info5 rfl (by decide) (by omega) (.slice A4 (ordO d a b 2 i).length c4) (ordO d a b 2 i) (pieceOf d i) Av (pieceOf d i).length cv (fun _ => True) (fun _ => False) rfl rfl ?aO ?aR (fun _ _ h => h) (fun _ h => h.elim) ?aF ?aB ?aS ?aL ?_; (case aR => exact HRV.out); (case aB => exact HB.out); (case aF => exact (fun _ _ => trivial)); (case aO => exact HO.out); (case aS => exact HB.out.size); (case aL => have := piece_len d i; have := HWL.out; have := hOl.out; omega); intro v9 w9 ho9 hb9 hg9 hat9; have HO9 := Aside0.mk ho9; have HB9 := Aside0.mk hb9; clear ho9 hb9 hg9 hat9))
          go_roundw
          case rel => exact ⟨i + 1, HI.out, by simp, ⟨by rw [ordO, HC.out]; exact HO9.out⟩, HB9⟩
          case measure => have := HI.out; simp [intOf]; omega
end Go.Proofs.YtpnlpbbnakplhaaDoor
