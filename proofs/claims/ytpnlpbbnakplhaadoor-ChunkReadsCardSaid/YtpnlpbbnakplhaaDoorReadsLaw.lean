/- ChunkReads: the law's walk. -/
import Derived.Test.YtpnlpbbnakplhaaDoorReads
namespace Go.Proofs.YtpnlpbbnakplhaaDoor
open Go.RowKit Go.Proofs.YtpnlpbbnakplhaaDoorW.PrintWords Go.Proofs.YtpnlpbbnakplhaaDoorW.PrintLast Go.Proofs.YtpnlpbbnakplhaaDoorW.PrintMore
set_option linter.unusedVariables false
set_option maxRecDepth 100000 in
set_option maxHeartbeats 4000000 in
theorem chunkReads.walk (A : Option Addr) (c : Nat) (b : List Int) (B : Option Addr) (cB : Nat) (l : List Int) (x2 x3 x4 x5 : Int) (w : World) (hG : Glob w) (hl : l.length ≤ 140737488351232) (h2 : 0 ≤ x2 ∧ x2 < 65536) (h3 : 0 ≤ x3 ∧ x3 < 65536) (h4 : 0 ≤ x4 ∧ x4 < 256) (h5 : 0 ≤ x5 ∧ x5 < 256) (hr : Reads w A b) (hc : b.length ≤ c) (hb : Bytes b) (hrB : Reads w B l) (hcB : l.length ≤ cB) :
    Calls Tryd.prog 3 #[.slice A b.length c, .slice B l.length cB, .int .u16 x2, .int .u16 x3, .int .u8 x4, .int .u8 x5] w fun e w' => e = .returned (.bool true) ∧ Below w.heap.size w w' := by
  have HG := Aside0.mk hG
  have HR := Aside0.mk hr
  have HRB := Aside0.mk hrB
  have HBY := Aside0.mk hb
  clear hG hr hrB hb
  by_cases hbig : 1000 < b.length
  · have hd : decide ((1000 : Int) < (b.length : Int)) = true := decide_eq_true (by omega)
    go_enter Tryd.func3, Tryd.ntmps3
    go_wp2_with fail
    refine (known.calls w HG.out).mono ?_
    rintro e w1 ⟨rfl, hb1⟩
    go_wp2
    go_ret
    exact ⟨rfl, hb1⟩
  · have hd : decide ((1000 : Int) < (b.length : Int)) = false := decide_eq_false (by omega)
    go_enter Tryd.func3, Tryd.ntmps3
    go_wp2_with fail
    refine (known.calls w HG.out).mono ?_
    rintro e w1 ⟨rfl, hb1⟩
    have HB1 := Aside0.mk hb1
    obtain ⟨d, hdl, hdb, hdata⟩ := data_calls B cB l x2 w1 hl h2.1 h2.2 (Kd.C_below HRB.out hb1) hcB
    have HD := Aside0.mk hdata
    have HDB := Aside0.mk hdb
    clear hb1 hdata hdb
    go_wp2_with fail
    refine HD.out.mono ?_
    rintro e w2 ⟨v2, rfl, ho2, hb2⟩
    obtain ⟨A2, c2, rfl⟩ := Kd.R_slice ho2
    have HR2 := Aside0.mk (Kd.R_reads' ho2).2.2
    have HC2 := Aside0.mk (Kd.R_reads' ho2).2.1
    have HB2 := Aside0.mk (below_step HB1.out hb2)
    have hwl := ChunkPure.wrap_length Z d
    have hwb := bytes_wrap d HDB.out (by omega)
    have hwc := ref_Wrap_calls A2 c2 d w2 HR2.out HC2.out (by omega) HDB.out
    obtain ⟨X, hX⟩ : ∃ X, X = ChunkPure.wrap Z d := ⟨_, rfl⟩
    rw [← hX] at hwl hwb hwc
    have hxl : X.length ≤ 1000 := by omega
    have HXL := Aside0.mk (show X.length ≤ 65000 by omega)
    have HXB := Aside0.mk hwb
    have HWC := Aside0.mk hwc
    clear ho2 hb2 HD hwl hwb hwc hX
    go_wp2_with fail
    refine HWC.out.mono ?_
    rintro e w3 ⟨v3, rfl, ho3, hb3⟩
    obtain ⟨A3, c3, rfl⟩ := Kd.R_slice ho3
    have HX3 := Aside0.mk (Kd.R_reads' ho3).2.2
    have HXC := Aside0.mk (Kd.R_reads' ho3).2.1
    have HB3 := Aside0.mk (below_step HB2.out hb3)
    clear ho3 hb3 HWC
    obtain ⟨r, hrf, hrb, hrl⟩ := bend_some x3 x4 x5 h3 h4 X HXL.out HXB.out
    have HRF := Aside0.mk hrf
    have HRY := Aside0.mk hrb
    have hr2 : r.length ≤ 1001 := by omega
    clear hrf hrb hrl
    go_wp2_with fail
    refine (RBend.roadsteadlaw01_Bend.calls 2 A3 c3 X x3 x4 x5 r w3 HX3.out HXC.out HRF.out).mono ?_
    rintro e w4 ⟨v4, rfl, ho4, hb4⟩
    have HO4 := Aside0.mk ho4
    have HB34 := Aside0.mk hb4
    have HB4 := Aside0.mk (below_step HB3.out hb4)
    have HX4 := Aside0.mk (Kd.C_below HX3.out hb4)
    clear ho4 hb4
    have hq0 : x5 % 4 < 4 := Int.emod_lt_of_pos _ (by decide)
    by_cases hq : x5 % 4 = 0
    · have hqb : (x5 % 4 == 0) = true := beq_iff_eq.2 hq
      by_cases h12 : 12 ≤ r.length
      · have hdd : decide ((12 : Int) ≤ (r.length : Int)) = true := decide_eq_true (by omega)
        obtain ⟨go, c4, e4, gb, gl, cl, HGo⟩ := Kd.R_form HO4.out (by omega)
        subst e4
        have ht8 : (r.take 8).length = 8 := by rw [List.length_take]; omega
        have hr4 := Kd.R_reads' HO4.out
        have hsc := RRight.roadsteadref02_Seal.calls 200 (some ⟨go, 0, none⟩) c4 (r.take 8) _ w4 (Kd.C_take hr4.2.2 (by omega)) (by rw [ht8]; omega) (rseal (r.take 8) (bytes_take HRY.out _) (by omega) 200 (by omega))
        rw [ht8] at hsc
        have hsl := ChunkPure.seal_length Z (r.take 8)
        have hsb : Bytes (ChunkPure.sealL Z (r.take 8)) := sealL_bytes (bytes_take HRY.out _)
        obtain ⟨h, hh⟩ : ∃ h, h = ChunkPure.sealL Z (r.take 8) := ⟨_, rfl⟩
        rw [← hh] at hsc hsl hsb
        have hhl : h.length = 12 := by omega
        have HSC := Aside0.mk hsc
        have HHB := Aside0.mk hsb
        have HGB := Aside0.mk gb
        have hgl := gl
        have HGL := Aside0.mk gl
        have h8c : 8 ≤ c4 := by omega
        clear hsc hsl hsb hh ht8 hr4 gb gl cl HGo hq
        go_wp2_with fail
        refine HSC.out.mono ?_
        rintro e w5 ⟨v5, rfl, ho5, hb5⟩
        obtain ⟨g5, c5, e5, gb5, gl5, cl5, HGo5⟩ := Kd.R_form ho5 (by omega)
        subst e5
        have hcells : ∀ j : Nat, j < 12 → w5.cell? ⟨g5, j, none⟩ = some (.int .u8 (rd h j)) := by
          intro j hj
          have hx := (Kd.R_celln 0 ho5 (j : Int) (by omega) (by omega)).1
          rw [Int.toNat_natCast] at hx
          exact hx
        have hne : g5 ≠ go := by have := HGL.out; omega
        have HCL := Aside0.mk hcells
        have HO5 := Aside0.mk (Kd.R_below HO4.out hb5)
        have HB35 := Aside0.mk (below_step HB34.out hb5)
        have HNE := Aside0.mk hne
        rw [hhl]
        clear hcells hne ho5 hb5 gb5 gl5 cl5 HGo5 HSC HO4 HB34
        go_wp2_with fail
        go_loopw [16] (fun v16 wr => ∃ (k : Nat) (ys : List Int), k ≤ 12 ∧ v16 = .int .i64 (k : Int) ∧ ys.length = r.length ∧ Aside0 (Bytes ys) ∧ Aside0 (Row wr w3.heap.size (fun _ => True) (.slice (some ⟨go, 0, none⟩) r.length c4) ys) ∧ Aside0 (∀ j : Nat, j < 12 → wr.cell? ⟨g5, j, none⟩ = some (.int .u8 (rd h j))) ∧ Aside0 (Below w3.heap.size w3 wr)) (fun v16 _ => 12 - (intOf v16).toNat)
        case atStart => exact ⟨0, r, Nat.zero_le _, rfl, rfl, HRY, HO5, HCL, HB35⟩
        case round =>
          clear HO5 HCL HB35
          obtain ⟨k, ys, hk, rfl, hys, HYB, HO, HC, HB⟩ := hrel
          by_cases hk12 : k = 12
          · subst hk12
            have HBR := Aside0.mk (below_step HB3.out HB.out)
            have HXR := Aside0.mk (Kd.C_below HX3.out HB.out)
            have HYR := Aside0.mk (Kd.R_reads' HO.out).2.2
            have HYC := Aside0.mk (Kd.R_reads' HO.out).2.1
            have HYL := Aside0.mk hys
            clear HO HC HB
            go_wp2_with fail
            refine (reads_calls A c b wr (HG.out.below HBR.out) (Kd.C_below HR.out HBR.out) hc (by omega) HBY.out).mono ?_
            rintro e w6 ⟨rfl, hb6⟩
            have HB6 := Aside0.mk (below_step HBR.out hb6)
            have HX6 := Aside0.mk (Kd.C_below HXR.out hb6)
            have HY6 := Aside0.mk (Kd.C_below HYR.out hb6)
            clear hb6
            go_wp2_with fail
            refine (reads_calls A3 c3 X w6 (HG.out.below HB6.out) HX6.out HXC.out HXL.out HXB.out).mono ?_
            rintro e w7 ⟨rfl, hb7⟩
            have HB7 := Aside0.mk (below_step HB6.out hb7)
            have HY7 := Aside0.mk (Kd.C_below HY6.out hb7)
            clear hb7
            go_wp2_with fail
            refine (show Calls Tryd.prog 14 #[.slice (some ⟨go, 0, none⟩) r.length c4] w7 _ from by have hy := reads_calls (some ⟨go, 0, none⟩) c4 ys w7 (HG.out.below HB7.out) HY7.out (by have := HYC.out; rw [← HYL.out] at this; exact this) (by rw [HYL.out]; omega) HYB.out; rw [HYL.out] at hy; exact hy).mono ?_
            rintro e w8 ⟨rfl, hb8⟩
            have HB8 := Aside0.mk (below_step HB7.out hb8)
            clear hb8
            go_wp2_with fail
            go_ret
            exact ⟨by first | rfl | simp, HB8.out⟩
          · have hlt : k < 12 := Nat.lt_of_le_of_ne hk hk12
            have hlt2 : (k : Int) < 12 := by omega
            have hlt3 : (k : Int) < (r.length : Int) := by omega
            have hcell := HC.out k hlt
            have hx := Kd.R_celln 0 HO.out (k : Int) (by omega) hlt3
            rw [Int.toNat_natCast] at hx
            obtain ⟨hx15, hf15⟩ := hx
            have HP := Aside0.mk (Kd.R_putg HO.out (k : Int) (rd h (k : Int)))
            clear hk12 hk
            go_wp2_with fail

            go_roundw
            case rel =>
              refine ⟨k + 1, ys.set k (rd h (k : Int)), hlt, by simp, by rw [List.length_set]; exact hys, ⟨bytes_setAt HYB.out _ (rd_range h HHB.out _)⟩, ⟨by have := HP.out.1; rw [Int.toNat_natCast] at this; exact this⟩, ⟨fun j hj => ?_⟩, ⟨below_set HB.out HGB.out⟩⟩
              rw [← HC.out j hj]
              unfold World.cell?
              rw [heap_setCell_other _ _ _ _ HNE.out]
            case measure => simp [intOf]; omega
      · have hdd : decide ((12 : Int) ≤ (r.length : Int)) = false := decide_eq_false (by omega)
        obtain ⟨A4, c4, rfl⟩ := Kd.R_slice HO4.out
        have HBR := HB4
        have HXR := HX4
        have HYR := Aside0.mk (Kd.R_reads' HO4.out).2.2
        have HYC := Aside0.mk (Kd.R_reads' HO4.out).2.1
        go_wp2_with fail
        refine (reads_calls A c b w4 (HG.out.below HBR.out) (Kd.C_below HR.out HBR.out) hc (by omega) HBY.out).mono ?_
        rintro e w6 ⟨rfl, hb6⟩
        have HB6 := Aside0.mk (below_step HBR.out hb6)
        have HX6 := Aside0.mk (Kd.C_below HXR.out hb6)
        have HY6 := Aside0.mk (Kd.C_below HYR.out hb6)
        clear hb6
        go_wp2_with fail
        refine (reads_calls A3 c3 X w6 (HG.out.below HB6.out) HX6.out HXC.out HXL.out HXB.out).mono ?_
        rintro e w7 ⟨rfl, hb7⟩
        have HB7 := Aside0.mk (below_step HB6.out hb7)
        have HY7 := Aside0.mk (Kd.C_below HY6.out hb7)
        clear hb7
        go_wp2_with fail
        refine (reads_calls A4 c4 r w7 (HG.out.below HB7.out) HY7.out HYC.out (by omega) HRY.out).mono ?_
        rintro e w8 ⟨rfl, hb8⟩
        have HB8 := Aside0.mk (below_step HB7.out hb8)
        clear hb8
        go_wp2_with fail
        go_ret
        exact ⟨by first | rfl | simp, HB8.out⟩
    · have hqb : (x5 % 4 == 0) = false := beq_eq_false_iff_ne.2 hq
      obtain ⟨A4, c4, rfl⟩ := Kd.R_slice HO4.out
      have HBR := HB4
      have HXR := HX4
      have HYR := Aside0.mk (Kd.R_reads' HO4.out).2.2
      have HYC := Aside0.mk (Kd.R_reads' HO4.out).2.1
      go_wp2_with fail
      refine (reads_calls A c b w4 (HG.out.below HBR.out) (Kd.C_below HR.out HBR.out) hc (by omega) HBY.out).mono ?_
      rintro e w6 ⟨rfl, hb6⟩
      have HB6 := Aside0.mk (below_step HBR.out hb6)
      have HX6 := Aside0.mk (Kd.C_below HXR.out hb6)
      have HY6 := Aside0.mk (Kd.C_below HYR.out hb6)
      clear hb6
      go_wp2_with fail
      refine (reads_calls A3 c3 X w6 (HG.out.below HB6.out) HX6.out HXC.out HXL.out HXB.out).mono ?_
      rintro e w7 ⟨rfl, hb7⟩
      have HB7 := Aside0.mk (below_step HB6.out hb7)
      have HY7 := Aside0.mk (Kd.C_below HY6.out hb7)
      clear hb7
      go_wp2_with fail
      refine (reads_calls A4 c4 r w7 (HG.out.below HB7.out) HY7.out HYC.out (by omega) HRY.out).mono ?_
      rintro e w8 ⟨rfl, hb8⟩
      have HB8 := Aside0.mk (below_step HB7.out hb8)
      clear hb8
      go_wp2_with fail
      go_ret
      exact ⟨by first | rfl | simp, HB8.out⟩
end Go.Proofs.YtpnlpbbnakplhaaDoor
