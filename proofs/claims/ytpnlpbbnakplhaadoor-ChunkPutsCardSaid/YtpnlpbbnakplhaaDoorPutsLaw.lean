/- ChunkPuts: the law's walk. -/
import Derived.Test.YtpnlpbbnakplhaaDoorPuts
import Derived.Test.YtpnlpbbnakplhaaDoorData
namespace Go.Proofs.YtpnlpbbnakplhaaDoor
open Go.RowKit Go.Proofs.YtpnlpbbnakplhaaDoorW.PrintWords Go.Proofs.YtpnlpbbnakplhaaDoorW.PrintLast Go.Proofs.YtpnlpbbnakplhaaDoorW.PrintMore
set_option linter.unusedVariables false
set_option maxRecDepth 100000 in
set_option maxHeartbeats 4000000 in
theorem chunkPuts.walk (A : Option Addr) (c : Nat) (b : List Int) (i n : Int) (B : Option Addr) (cB : Nat) (l : List Int) (x4 x5 : Int) (w : World) (hG : Glob w) (hl : l.length ≤ 140737488351232) (h4 : 0 ≤ x4 ∧ x4 < 65536) (h5 : 0 ≤ x5 ∧ x5 < 256) (hr : Reads w A b) (hc : b.length ≤ c) (hb : Bytes b) (hrB : Reads w B l) (hcB : l.length ≤ cB) :
    Calls Tryd.prog 5 #[.slice A b.length c, .int .i64 i, .int .i64 n, .slice B l.length cB, .int .u16 x4, .int .u8 x5] w fun e w' => e = .returned (.bool true) ∧ Below w.heap.size w w' := by
  have HG := Aside0.mk hG
  have HR := Aside0.mk hr
  have HRB := Aside0.mk hrB
  have HBY := Aside0.mk hb
  clear hG hr hrB hb
  by_cases hbig : 1000 < b.length
  · have hd : decide ((1000 : Int) < (b.length : Int)) = true := decide_eq_true (by omega)
    go_enter Tryd.func5, Tryd.ntmps5
    go_wp2_with fail
    refine (known.calls w HG.out).mono ?_
    rintro e w1 ⟨rfl, hb1⟩
    go_wp2
    go_ret
    exact ⟨rfl, hb1⟩
  · have hd : decide ((1000 : Int) < (b.length : Int)) = false := decide_eq_false (by omega)
    go_enter Tryd.func5, Tryd.ntmps5
    go_wp2_with fail
    refine (known.calls w HG.out).mono ?_
    rintro e w1 ⟨rfl, hb1⟩
    have HB1 := Aside0.mk hb1
    obtain ⟨d, hdl, hdb, hdata⟩ := data_calls B cB l x4 w1 hl h4.1 h4.2 (Kd.C_below HRB.out hb1) hcB
    have HD := Aside0.mk hdata
    have HDB := Aside0.mk hdb
    clear hb1 hdata hdb
    go_wp2_with fail
    refine HD.out.mono ?_
    rintro e w2 ⟨v2, rfl, ho2, hb2⟩
    obtain ⟨A2, c2, rfl⟩ := Kd.R_slice ho2
    have HR2 := Aside0.mk (Kd.R_reads' ho2).2.2
    have HC2 := Aside0.mk (Kd.R_reads' ho2).2.1
    have HB2 := Aside0.mk (below_step HB1.out hb2)
    clear ho2 hb2 HD
    go_wp2_with fail
    refine (puts_calls A c b i w2 (HG.out.below HB2.out) (Kd.C_below HR.out HB2.out) hc (by omega) HBY.out).mono ?_
    rintro e w3 ⟨rfl, hb3⟩
    have HB3 := Aside0.mk (below_step HB2.out hb3)
    have HR3 := Aside0.mk (Kd.C_below HR2.out hb3)
    clear hb3
    go_wp2_with fail
    refine (puts_calls A2 c2 d _ w3 (HG.out.below HB3.out) HR3.out HC2.out (by omega) HDB.out).mono ?_
    rintro e w4 ⟨rfl, hb4⟩
    have HB4 := Aside0.mk (below_step HB3.out hb4)
    clear hb4
    go_wp2_with fail
    refine (chunk_Pieces_calls _ _).mono ?_
    rintro e w5 ⟨rfl, rfl⟩
    go_wp2_with fail
    refine (RPieces.roadsteadref18_Pieces.calls _ _ _ (rpieces _)).mono ?_
    rintro e w6 ⟨rfl, ⟨n6, rfl⟩⟩
    go_wp2_with fail
    refine (chunk_Pieces_calls _ _).mono ?_
    rintro e w7 ⟨rfl, rfl⟩
    go_wp2_with fail
    refine (RPieces.roadsteadref18_Pieces.calls _ _ _ (rpieces _)).mono ?_
    rintro e w8 ⟨rfl, ⟨n8, rfl⟩⟩
    go_wp2_with fail
    go_ret
    exact ⟨by first | rfl | simp, pw_below_drewN HB4.out _⟩
end Go.Proofs.YtpnlpbbnakplhaaDoor
