/- ChunkSizes: the law's walk. -/
import Derived.Test.YtpnlpbbnakplhaaDoorData
namespace Go.Proofs.YtpnlpbbnakplhaaDoor
open Go.RowKit Go.Proofs.YtpnlpbbnakplhaaDoorW.PrintWords Go.Proofs.YtpnlpbbnakplhaaDoorW.PrintLast Go.Proofs.YtpnlpbbnakplhaaDoorW.PrintMore
set_option linter.unusedVariables false
theorem make_some (W : World) (m : Nat) (hm : m ≤ 281474976710656) : ∃ C, (Instr.makeSlice 22 (.int .i64 (m : Nat)) (.int .i64 (m : Nat))).run Tryd.prog W = .ok (.slice (some ⟨W.heap.size, 0, none⟩) m m) (W.alloc (.cells C 5)) := by
  obtain ⟨i0, hi, hz0, hz1, hz2⟩ := info_parts info5
  have hr := run_make (P := Tryd.prog) W 22 5 i0 (.int .u8 0) Tryd.underlying22 hi hz0 .i64 .i64 (m : Int) (m : Int) (by omega) (by omega) (by rw [hz2]; omega) (by omega)
  simp only [Int.toNat_natCast] at hr
  exact ⟨_, hr⟩
noncomputable def bigCells (W : World) : Array Value := Classical.choose (make_some W 1048577 (by omega))
theorem make_big (W : World) : (Instr.makeSlice 22 (.int .i64 1048577) (.int .i64 1048577)).run Tryd.prog W = .ok (.slice (some ⟨W.heap.size, 0, none⟩) 1048577 1048577) (W.alloc (.cells (bigCells W) 5)) :=
  Classical.choose_spec (make_some W 1048577 (by omega))
set_option maxRecDepth 100000 in
set_option maxHeartbeats 2000000 in
theorem chunkSizes.walk (A : Option Addr) (c : Nat) (l : List Int) (n : Int) (w : World) (hG : Glob w) (hl : l.length ≤ 140737488351232) (h0 : 0 ≤ n) (h1 : n < 65536) (hr : Reads w A l) (hc : l.length ≤ c) :
    Calls Tryd.prog 4 #[.slice A l.length c, .int .u16 n] w fun e w' => e = .returned (.bool true) ∧ Below w.heap.size w w' := by
  obtain ⟨d, hdl, hdb, hdata⟩ := data_calls A c l n w hl h0 h1 hr hc
  have HG := Aside0.mk hG
  have hbig := make_big
  have HD := Aside0.mk hdata
  have hwl : (ChunkPure.wrap Z d).length = 12 + d.length + 7 * ((d.length + 99) / 100) + 32 := ChunkPure.wrap_length Z d
  have hcd : countOf (d.length : Int) = 2 + ((d.length : Int) + 99) / 100 := by unfold countOf; rw [if_pos (by omega)]
  have hcb : countOf 1048577 = 0 := by decide
  obtain ⟨q, hq⟩ : ∃ q : Nat, q = (d.length + 99) / 100 := ⟨_, rfl⟩
  have hq2 : ((d.length : Int) + 99) / 100 = (q : Int) := by omega
  have ht : Int.tdiv ((d.length : Int) + 99) 100 = (q : Int) := by rw [Int.tdiv_eq_ediv_of_nonneg (by omega)]; exact hq2
  rw [hq2] at hcd
  rw [← hq] at hwl
  have hql : q ≤ 7 := by omega
  have HWL := Aside0.mk hwl
  have hz : (2 + (q : Int) - 2) = (q : Int) := by omega
  clear hG hdata hwl hq hr hq2
  go_enter Tryd.func4, Tryd.ntmps4
  go_wp2_with (first
    | (go_at_call 11; refine HD.out.mono ?_; rintro e w1 ⟨v1, rfl, ho1, hb1⟩; obtain ⟨A1, c1, rfl⟩ := Kd.R_slice ho1; have HO1 := Aside0.mk ho1; have HB1 := Aside0.mk hb1; clear ho1 hb1)
    | (go_at_call 15; refine (chunk_Wrap_calls A1 c1 d w1 (HG.out.below HB1.out) (Kd.R_reads' HO1.out).2.2 (Kd.R_reads' HO1.out).2.1).mono ?_; rintro e w2 ⟨v2, rfl, ho2, hb2⟩; rw [wrapOf_short d (by omega)] at ho2; obtain ⟨A2, c2, rfl⟩ := Kd.R_slice ho2; have HB2 := Aside0.mk (below_step HB1.out hb2); rw [HWL.out]; clear hb2 ho2 HO1)
    | (go_at_call 15; refine (chunk_Wrap_long (some ⟨wp.heap.size, 0, none⟩) 1048577 1048577 (by omega) _).mono ?_; rintro e w4 ⟨rfl, rfl⟩; have HB3 := Aside0.mk (HB2.out.alloc HB2.out.size (.cells (bigCells wp) 5)))
    | (go_at_call 9; refine (known.calls _ (HG.out.below HB3.out)).mono ?_; rintro e w5 ⟨rfl, hb5⟩; have HB5 := Aside0.mk (below_step HB3.out hb5); clear hb5)
    | (go_at_call 16; refine (chunk_Pieces_calls _ _).mono ?_; rintro e wp ⟨rfl, rfl⟩))
  go_ret
  exact ⟨rfl, HB5.out⟩
end Go.Proofs.YtpnlpbbnakplhaaDoor
