/- roadsteadref18.Piece of the given program: the walk. -/
import Derived.Test.YtpnlpbbnakplhaaDoorRefWrap
namespace Go.Proofs.YtpnlpbbnakplhaaDoor
open Go.RowKit Go.Proofs.YtpnlpbbnakplhaaDoorW.PrintWords Go.Proofs.YtpnlpbbnakplhaaDoorW.PrintLast Go.Proofs.YtpnlpbbnakplhaaDoorW.PrintMore Go.Proofs.YtpnlpbbnakplhaaDoor.RRight
set_option linter.unusedVariables false
set_option maxRecDepth 100000 in
set_option maxHeartbeats 4000000 in
theorem ref_Piece_calls (A : Option Addr) (c : Nat) (b : List Int) (i : Int) (w : World) (hR : Reads w A b) (hc : b.length ≤ c) (hl : b.length ≤ 65000) (hb : Bytes b) :
    Calls Tryd.prog 26 #[.slice A b.length c, .int .i64 i] w (PieceRes (pieceOf b i) w) := by
  have hcl := countOf_len b (by omega)
  obtain ⟨k, hk⟩ : ∃ k, k = (ChunkPure.pieces Z b).length := ⟨_, rfl⟩
  have hkc : k = 2 + (b.length + 99) / 100 := by rw [hk, ChunkPure.pieces_count]
  rw [← hk] at hcl
  have HK := Aside0.mk hk
  have HR := Aside0.mk hR
  have HBY := Aside0.mk hb
  have hpc := RPieces.roadsteadref18_Pieces.calls (b.length : Int) _ w (rpieces _)
  rw [hcl] at hpc
  have HPC := Aside0.mk hpc
  clear hk hR hb hpc hcl
  by_cases h0 : i < 0
  · rw [piece_none b i (.inl h0)]
    go_enter Tryd.func26, Tryd.ntmps26
    go_wp2_with (go_at_call 18; refine HPC.out.mono ?_; rintro e wp ⟨rfl, ⟨nd, rfl⟩⟩)
    go_ret
    exact ⟨none, 0, rfl, Nat.le_refl _, Kd.C_nil _ _, pw_below_drewN (Below.refl _ _) nd⟩
  · obtain ⟨j, rfl⟩ := Int.eq_ofNat_of_zero_le (show 0 ≤ i by omega)
    by_cases h1 : k ≤ j
    · rw [piece_none b (j : Int) (.inr (by rw [← HK.out]; omega))]
      have hd : decide ((k : Int) ≤ (j : Int)) = true := decide_eq_true (by omega)
      go_enter Tryd.func26, Tryd.ntmps26
      go_wp2_with (go_at_call 18; refine HPC.out.mono ?_; rintro e wp ⟨rfl, ⟨nd, rfl⟩⟩)
      go_ret
      exact ⟨none, 0, rfl, Nat.le_refl _, Kd.C_nil _ _, pw_below_drewN (Below.refl _ _) nd⟩
    · have hd : decide ((k : Int) ≤ (j : Int)) = false := decide_eq_false (by omega)
      cases j with
      | zero =>
        rw [show ((0 : Nat) : Int) = 0 from rfl, piece_first]
        go_enter Tryd.func26, Tryd.ntmps26
        go_wp2_with (go_at_call 18; refine HPC.out.mono ?_; rintro e wp ⟨rfl, ⟨nd, rfl⟩⟩)
        refine (Rfront.roadsteadref18_head.calls 200 (b.length : Int) _ _ (rhead b.length (by omega) 200 (by decide))).mono ?_
        rintro e w1 ⟨v1, rfl, ho1, hb1⟩
        obtain ⟨A1, c1, rfl⟩ := Kd.R_slice ho1
        have hr1 := Kd.R_reads' ho1
        go_wp2
        go_ret
        exact ⟨A1, c1, rfl, hr1.2.1, hr1.2.2, below_step (pw_below_drewN (Below.refl _ _) nd) hb1⟩
      | succ j =>
        by_cases h2 : 100 * j < b.length
        · rw [piece_mid b j h2]
          have hlt : decide (((j + 1 : Nat) : Int) < (k : Int) - 1) = true := decide_eq_true (by omega)
          go_enter Tryd.func26, Tryd.ntmps26
          go_wp2_with (go_at_call 18; refine HPC.out.mono ?_; rintro e wp ⟨rfl, ⟨nd, rfl⟩⟩)
          refine (ref_part_calls A c b j (w.drewN nd) (Kd.C_drewN HR.out nd) hc h2 (by omega) HBY.out).mono ?_
          rintro e w1 ⟨v1, rfl, ho1, hb1⟩
          obtain ⟨A1, c1, rfl⟩ := Kd.R_slice ho1
          have hr1 := Kd.R_reads' ho1
          go_wp2
          go_ret
          exact ⟨A1, c1, rfl, hr1.2.1, hr1.2.2, below_step (pw_below_drewN (Below.refl _ _) nd) hb1⟩
        · rw [piece_last b (j + 1) (by rw [← HK.out]; omega)]
          have hlt : decide (((j + 1 : Nat) : Int) < (k : Int) - 1) = false := decide_eq_false (by omega)
          have hfl : (ChunkPure.front Z b).length ≤ 100000 := by rw [front_len]; omega
          have hfb := front_bytes b HBY.out hl
          have hfr := fun w hR => ref_front_calls A c b w hR hc (by omega) HBY.out
          obtain ⟨F, hF⟩ : ∃ F, F = ChunkPure.front Z b := ⟨_, rfl⟩
          rw [← hF] at hfr hfl hfb ⊢
          obtain ⟨D, hD⟩ : ∃ D, D = digest F := ⟨_, rfl⟩
          have hDl : D.length = 32 := by rw [hD]; exact digest_len _
          have HFL := Aside0.mk hfl
          have HFB := Aside0.mk hfb
          have HD := Aside0.mk hD
          have HDL := Aside0.mk hDl
          have HFR := Aside0.mk hfr
          rw [← hD]
          clear hF hD hfl hfb hDl hfr
          go_enter Tryd.func26, Tryd.ntmps26
          go_wp2_with (first
            | (go_at_call 18; refine HPC.out.mono ?_; rintro e wp ⟨rfl, ⟨nd, rfl⟩⟩)
            | (go_at_call 21; refine (HFR.out _ (Kd.C_drewN HR.out nd)).mono ?_; rintro e w1 ⟨v1, rfl, ho1, hb1⟩; obtain ⟨A1, c1, rfl⟩ := Kd.R_slice ho1; have HS1 := Aside0.mk (Kd.R_reads' ho1); have HB1 := Aside0.mk hb1; clear ho1 hb1)
            | (go_at_call 22; refine (ref_Sum.calls A1 c1 F w1 HS1.out.2.2 HS1.out.2.1 (by have := HFL.out; omega) HFB.out).mono ?_; rintro e wq ⟨rfl, hbq⟩; rw [← HD.out]; have HBQ := Aside0.mk hbq; clear hbq)
            | (refine wpList_alloc_row rfl 42 rfl _ info24' ?_)
            | (refine wpList_store_row rfl 42 _ _ rfl _ (part8u 32 D) rfl rfl 42 (part8u 32 []) (heap_alloc_new _ _) (by kernel_rfl) (by kernel_rfl) (p8_one _ _) ?_))
          go_ret
          have h := reads_of_block (setRow_heap _ _ _ (part8u D.length D) _ _ (heap_alloc_new wq (.cells (part8u 32 []) 42))) (by rw [HDL.out]; decide)
          refine ⟨some ⟨wq.heap.size, 0, none⟩, 32, by rw [HDL.out]; rfl, Nat.le_of_eq HDL.out, ?_, below_step (pw_below_drewN (Below.refl _ _) nd) (below_step HB1.out (below_step HBQ.out (below_setRow ((Below.refl _ _).alloc (Nat.le_refl _) _) (Nat.le_refl _) _)))⟩
          rw [HDL.out] at h
          exact h
end Go.Proofs.YtpnlpbbnakplhaaDoor
