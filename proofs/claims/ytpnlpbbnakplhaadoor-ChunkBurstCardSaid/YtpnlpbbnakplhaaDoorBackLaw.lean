/- ChunkBack: the law's walk. -/
import Derived.Test.YtpnlpbbnakplhaaDoorData
namespace Go.Proofs.YtpnlpbbnakplhaaDoor
open Go.RowKit Go.Proofs.YtpnlpbbnakplhaaDoorW.PrintWords Go.Proofs.YtpnlpbbnakplhaaDoorW.PrintLast Go.Proofs.YtpnlpbbnakplhaaDoorW.PrintMore
set_option linter.unusedVariables false
theorem piece_pos (d : List Int) (x : List Int) (h : x ∈ ChunkPure.pieces Z d) : 0 < x.length := by
  unfold ChunkPure.pieces at h
  rw [List.mem_cons, List.mem_append] at h
  rcases h with rfl | h | h
  · rw [ChunkPure.head_length]; omega
  · obtain ⟨j, hj⟩ := List.getElem?_of_mem h
    have hlt := (List.getElem?_eq_some_iff.1 hj).1
    rw [ChunkPure.parts_count Z d.length 0 d (Nat.le_refl _)] at hlt
    rw [ChunkPure.parts_get Z d.length 0 d j (Nat.le_refl _) hlt] at hj
    injection hj with hj
    rw [← hj, ChunkPure.part_length]
    omega
  · rw [List.mem_singleton] at h
    rw [h, Z.hd]
    omega
theorem piece_at (d : List Int) (i : Nat) (h : i < (ChunkPure.pieces Z d).length) : 0 < (pieceOf d i).length ∧ ((ChunkPure.pieces Z d).take (i + 1)).flatten = ((ChunkPure.pieces Z d).take i).flatten ++ pieceOf d i := by
  have hp : pieceOf d i = (ChunkPure.pieces Z d)[i] := by unfold pieceOf; rw [if_pos (by omega), Int.toNat_natCast, List.getElem?_eq_getElem h]; rfl
  refine ⟨by rw [hp]; exact piece_pos d _ (List.getElem_mem h), ?_⟩
  rw [hp, List.take_succ_eq_append_getElem h, List.flatten_append]
  simp
theorem piece_out (d : List Int) (i : Int) (h : i < 0 ∨ ((ChunkPure.pieces Z d).length : Int) ≤ i) : pieceOf d i = [] := by
  unfold pieceOf
  rcases h with h | h
  · rw [if_neg (by omega)]
  · rw [if_pos (by omega), List.getElem?_eq_none (by omega)]
    rfl
theorem take_length (d : List Int) (i : Nat) : ((ChunkPure.pieces Z d).take i).flatten.length ≤ (ChunkPure.wrap Z d).length := by
  rw [← ChunkPure.pieces_flatten]
  conv => rhs; rw [← List.take_append_drop i (ChunkPure.pieces Z d), List.flatten_append, List.length_append]
  omega
set_option maxRecDepth 100000 in
set_option maxHeartbeats 4000000 in
theorem chunkBack.walk (A : Option Addr) (c : Nat) (l : List Int) (n : Int) (w : World) (hG : Glob w) (hl : l.length ≤ 140737488351232) (h0 : 0 ≤ n) (h1 : n < 65536) (hr : Reads w A l) (hc : l.length ≤ c) :
    Calls Tryd.prog 6 #[.slice A l.length c, .int .u16 n] w fun e w' => e = .returned (.bool true) ∧ Below w.heap.size w w' := by
  obtain ⟨d, hdl, hdb, hdata⟩ := data_calls A c l n w hl h0 h1 hr hc
  have HG := Aside0.mk hG
  have HD := Aside0.mk hdata
  have HDB := Aside0.mk hdb
  have hwl : (ChunkPure.wrap Z d).length = 12 + d.length + 7 * ((d.length + 99) / 100) + 32 := ChunkPure.wrap_length Z d
  have hwl2 : (ChunkPure.wrap Z d).length ≤ 1000 := by omega
  have HWL := Aside0.mk hwl2
  have HWB := Aside0.mk (bytes_wrap d hdb (by omega))
  obtain ⟨k, hk⟩ : ∃ k : Nat, k = (ChunkPure.pieces Z d).length := ⟨_, rfl⟩
  have hcd : countOf (d.length : Int) = (k : Int) := by rw [hk, ChunkPure.pieces_count]; unfold countOf; rw [if_pos (by omega)]; omega
  have hkl : k ≤ 10 := by rw [hk, ChunkPure.pieces_count]; omega
  have HK := Aside0.mk hk
  have HUW := Aside0.mk (ChunkPure.unwrap_wrap Z d (by omega))
  have HDL := Aside0.mk hdl
  have hp1 : pieceOf d (-1) = [] := piece_out d _ (.inl (by omega))
  have hpk : pieceOf d (k : Int) = [] := piece_out d _ (.inr (by omega))
  clear hG hdata hwl hwl2 hr hk hdb
  go_enter Tryd.func6, Tryd.ntmps6
  go_wp2_with fail
  refine HD.out.mono ?_
  rintro e w1 ⟨v1, rfl, ho1, hb1⟩
  obtain ⟨A1, c1, rfl⟩ := Kd.R_slice ho1
  have hrd1 := Kd.R_reads' ho1
  have HB1 := Aside0.mk hb1
  go_wp2_with fail
  refine (chunk_Wrap_calls A1 c1 d w1 (HG.out.below hb1) hrd1.2.2 hrd1.2.1).mono ?_
  rintro e w2 ⟨v2, rfl, ho2, hb2⟩
  rw [wrapOf_short d (by omega)] at ho2
  obtain ⟨A2, c2, rfl⟩ := Kd.R_slice ho2
  have hrd2 := Kd.R_reads' ho2
  have HB2 := Aside0.mk (below_step HB1.out hb2)
  have HR12 := Aside0.mk (Kd.C_below hrd1.2.2 hb2)
  have HC1 := Aside0.mk hrd1.2.1
  have hun := chunk_Unwrap_calls A2 c2 (ChunkPure.wrap Z d) w2 (HG.out.below HB2.out) hrd2.2.2 hrd2.2.1 HWB.out (by have := HWL.out; omega)
  unfold RU at hun
  rw [HUW.out] at hun
  have HUN := Aside0.mk hun
  have HR2 := Aside0.mk hrd2.2.2
  clear hun hb1 ho1 hrd1 hb2 ho2 hrd2
  have eu0 : ((errU (Except.ok d) : Nat) : Int) = 0 := rfl
  go_wp2_with fail
  refine HUN.out.mono ?_
  rintro e w3 ⟨v3, rfl, ho3, hb3⟩
  have ho3 : Row w3 w2.heap.size (fun _ => True) v3 d := ho3
  obtain ⟨A3, c3, rfl⟩ := Kd.R_slice ho3
  have HR3 := Aside0.mk (Kd.R_reads' ho3).2.2
  have HB3 := Aside0.mk (below_step HB2.out hb3)
  have HR13 := Aside0.mk (Kd.C_below HR12.out hb3)
  have HR23 := Aside0.mk (Kd.C_below HR2.out hb3)
  clear ho3 hb3 HUN HR12 HR2
  rw [eu0]
  clear eu0
  go_wp2_with (go_at_call 16; refine (chunk_Pieces_calls _ _).mono ?_; rintro e wp ⟨rfl, rfl⟩)
  go_loopw [9, 11] (fun v9 v11 wr => ∃ i : Nat, i ≤ k ∧ v11 = .int .i64 i ∧ Aside0 (Row wr wp.heap.size (fun _ => True) v9 ((ChunkPure.pieces Z d).take i).flatten) ∧ Aside0 (Below wp.heap.size wp wr)) (fun _ v11 _ => k - (intOf v11).toNat)
  case atStart => exact ⟨0, by omega, rfl, ⟨Kd.R_nil _ _ _ _ _⟩, ⟨Below.refl _ _⟩⟩
  case round =>
    obtain ⟨i, hi, rfl, HO, HB⟩ := hrel
    have hmx := take_length d i
    obtain ⟨A4, c4, rfl⟩ := Kd.R_slice HO.out
    have HRD := Aside0.mk (Kd.C_below HR13.out HB.out)
    have HBW := Aside0.mk (below_step HB3.out HB.out)
    by_cases hik : i = k
    · subst hik
      have hall : ((ChunkPure.pieces Z d).take i).flatten = ChunkPure.wrap Z d := by rw [HK.out, List.take_length, ChunkPure.pieces_flatten]
      have HRA := (Kd.R_reads' HO.out).2.2
      rw [hall] at HRA ⊢
      have HRA := Aside0.mk HRA
      have HRX := Aside0.mk (Kd.C_below HR3.out HB.out)
      have HRB := Aside0.mk (Kd.C_below HR23.out HB.out)
      clear hall hmx HO
      go_wp2_with fail
      refine (known.calls _ (HG.out.below HBW.out)).mono ?_
      rintro e w5 ⟨rfl, hb5⟩
      have q1 := conv_row w5 A3 c3 d (Kd.C_below HRX.out hb5)
      have q2 := conv_row w5 A1 c1 d (Kd.C_below HRD.out hb5)
      have q3 := conv_row w5 A4 c4 _ (Kd.C_below HRA.out hb5)
      have q4 := conv_row w5 A2 c2 _ (Kd.C_below HRB.out hb5)
      have HRD5 := Aside0.mk (Kd.C_below HRD.out hb5)
      have HB5 := Aside0.mk (below_step HBW.out hb5)
      clear hb5
      go_wp2_with fail
      refine (chunk_Piece_calls A1 c1 d _ w5 (HG.out.below HB5.out) HRD5.out HC1.out (by omega)).mono ?_
      rintro e w6 ⟨Av, cv, rfl, _, _, hb6⟩
      rw [hpk]
      have HRD6 := Aside0.mk (Kd.C_below HRD5.out hb6)
      have HB6 := Aside0.mk (below_step HB5.out hb6)
      clear hb6
      go_wp2_with fail
      refine (chunk_Piece_calls A1 c1 d _ w6 (HG.out.below HB6.out) HRD6.out HC1.out (by omega)).mono ?_
      rintro e w7 ⟨Av7, cv7, rfl, _, _, hb7⟩
      rw [hp1]
      have HB7 := Aside0.mk (below_step HB6.out hb7)
      clear hb7
      go_wp2_with fail
      go_ret
      exact ⟨rfl, HB7.out⟩
    · obtain ⟨hx0, hx1⟩ := piece_at d i (by have := HK.out; omega)
      obtain ⟨x, hx⟩ : ∃ x, x = pieceOf d i := ⟨_, rfl⟩
      rw [← hx] at hx0 hx1
      have hmy := take_length d (i + 1)
      rw [hx1, List.length_append] at hmy
      have HX1 := Aside0.mk hx1
      have hxz : ((x.length : Int) = 0) = False := by simp; intro h; rw [h] at hx0; simp at hx0
      generalize hP : ((ChunkPure.pieces Z d).take i).flatten = P at *
      have hlt : decide ((i : Int) < (k : Int)) = true := decide_eq_true (by omega)
      have HMY := Aside0.mk hmy
      clear hmy hmx hx1
      have HPC := Aside0.mk (chunk_Piece_calls A1 c1 d i wr (HG.out.below HBW.out) HRD.out HC1.out (by omega))
      rw [← hx] at HPC
      clear hx
      go_wp2_with fail
      refine HPC.out.mono ?_
      rintro e w5 ⟨Av, cv, rfl, hcv, hrv, hb5⟩
      have HO5 := Aside0.mk (Kd.R_below HO.out hb5)
      have HB5 := Aside0.mk (below_step HB.out hb5)
      have HRV := Aside0.mk hrv
      clear hrv hb5 HPC HO
      go_wp2_with ((with_reducible refine gate_builtin (b := .append) (xs := #[.tmp 37, .tmp 38]) rfl ?_); at_builtin; refine Kd.R_append_rows (Kd.int .u8) (w0 := wp) wp.heap.size rfl (.tmp 37) (.tmp 38) 22 5 (.int .u8 0) 1 rfl Tryd.underlying22 info5 rfl (by decide) (by omega) (.slice A4 P.length c4) P x Av x.length cv (fun _ => True) (fun _ => False) rfl rfl ?aO ?aR (fun _ _ h => h) (fun _ h => h.elim) ?aF ?aB ?aS ?aL ?_; (case aR => exact HRV.out); (case aB => exact HB5.out); (case aF => exact (fun _ _ => trivial)); (case aO => exact HO5.out); (case aS => exact HB5.out.size); (case aL => have := HMY.out; have := HWL.out; omega); intro v9 w9 ho9 hb9 hg9 hat9; have HO9 := Aside0.mk ho9; have HB9 := Aside0.mk hb9; clear ho9 hb9 hg9 hat9)
      go_roundw
      case rel => exact ⟨i + 1, by omega, by simp, ⟨by rw [HX1.out]; exact HO9.out⟩, HB9⟩
      case measure => simp [intOf]; omega
end Go.Proofs.YtpnlpbbnakplhaaDoor
