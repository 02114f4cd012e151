/- ChunkBurst: the end of the law's walk, and the whole of it. -/
import Derived.Test.YtpnlpbbnakplhaaDoorBurstA
/- ChunkBurst: a round that turns a bit. -/
namespace Go.Proofs.YtpnlpbbnakplhaaDoor
open Go.RowKit Go.Proofs.YtpnlpbbnakplhaaDoorW.PrintWords Go.Proofs.YtpnlpbbnakplhaaDoorW.PrintLast Go.Proofs.YtpnlpbbnakplhaaDoorW.PrintMore
set_option linter.unusedVariables false
theorem wp_rem8 {o : Oper} {a : Act} {w : World} {K : Act → World → Prop} {Q : Exit → Act → World → Prop} (x : Operand) (ho : o.op = .binOp .rem 3 x (.const (.int .i64 8)) 3) (m r : Nat) (hx : a.eval x = .int .i64 (m : Int)) (hr : (m : Int) % 8 = (r : Int))
    (h : K (a.put o.dst (.int .i64 (r : Int))) w) : o.wp Tryd.prog a w K Q := by
  have e : Int.tmod (m : Int) 8 = (r : Int) := by rw [Int.tmod_eq_emod_of_nonneg (Int.natCast_nonneg _), hr]
  have hy : a.eval (.const (.int .i64 8)) = .int .i64 8 := rfl
  unfold Oper.wp execOp
  rw [ho]
  dsimp only
  rw [hx, hy]
  go_simp
  exact h
theorem wpList_rem8 {ops : Array Oper} {rest : List Oper} {o : Oper} {a : Act} {w : World} {Q : Exit → Act → World → Prop} (hgd : o.guard = none) (x : Operand) (ho : o.op = .binOp .rem 3 x (.const (.int .i64 8)) 3) (m r : Nat) (hx : a.eval x = .int .i64 (m : Int)) (hr : (m : Int) % 8 = (r : Int))
    (h : wpList Tryd.prog ops Q rest (a.put o.dst (.int .i64 (r : Int))) w) : wpList Tryd.prog ops Q (o :: rest) a w :=
  wpList_plain hgd fun _ hK => wp_rem8 x ho m r hx hr (hK _ _ h)
theorem wp_conv39 {o : Oper} {a : Act} {w : World} {K : Act → World → Prop} {Q : Exit → Act → World → Prop} (x : Operand) (ho : o.op = .convert 3 39 x) (r : Nat) (hx : a.eval x = .int .i64 (r : Int)) (hr : r < 8)
    (h : K (a.put o.dst (.int .u64 (r : Int))) w) : o.wp Tryd.prog a w K Q := by
  have e : IntKind.u64.wrap (r : Int) = (r : Int) := by rw [IntKind.wrap_u64]; omega
  unfold Oper.wp execOp
  rw [ho]
  dsimp only
  rw [hx]
  go_simp
  exact h
theorem wpList_conv39 {ops : Array Oper} {rest : List Oper} {o : Oper} {a : Act} {w : World} {Q : Exit → Act → World → Prop} (hgd : o.guard = none) (x : Operand) (ho : o.op = .convert 3 39 x) (r : Nat) (hx : a.eval x = .int .i64 (r : Int)) (hr : r < 8)
    (h : wpList Tryd.prog ops Q rest (a.put o.dst (.int .u64 (r : Int))) w) : wpList Tryd.prog ops Q (o :: rest) a w :=
  wpList_plain hgd fun _ hK => wp_conv39 x ho r hx hr (hK _ _ h)
theorem wp_shl5 {o : Oper} {a : Act} {w : World} {K : Act → World → Prop} {Q : Exit → Act → World → Prop} (x : Operand) (ho : o.op = .binOp .shl 5 (.const (.int .u8 1)) x 39) (r : Nat) (hx : a.eval x = .int .u64 (r : Int))
    (h : K (a.put o.dst (.int .u8 (shl .u8 1 (r : Int)))) w) : o.wp Tryd.prog a w K Q := by
  have hy : a.eval (.const (.int .u8 1)) = .int .u8 1 := rfl
  have e : IntKind.u8.wrap (2 ^ min r 8) = shl .u8 1 (r : Int) := by unfold shl; simp [IntKind.bits]
  unfold Oper.wp execOp
  rw [ho]
  dsimp only
  rw [hx, hy]
  go_simp
  exact h
theorem wpList_shl5 {ops : Array Oper} {rest : List Oper} {o : Oper} {a : Act} {w : World} {Q : Exit → Act → World → Prop} (hgd : o.guard = none) (x : Operand) (ho : o.op = .binOp .shl 5 (.const (.int .u8 1)) x 39) (r : Nat) (hx : a.eval x = .int .u64 (r : Int))
    (h : wpList Tryd.prog ops Q rest (a.put o.dst (.int .u8 (shl .u8 1 (r : Int)))) w) : wpList Tryd.prog ops Q (o :: rest) a w :=
  wpList_plain hgd fun _ hK => wp_shl5 x ho r hx (hK _ _ h)
theorem wp_xor5 {o : Oper} {a : Act} {w : World} {K : Act → World → Prop} {Q : Exit → Act → World → Prop} (x y : Operand) (ho : o.op = .binOp .xor 5 x y 5) (u v : Int) (hx : a.eval x = .int .u8 u) (hy : a.eval y = .int .u8 v)
    (h : K (a.put o.dst (.int .u8 (Go.bits .xor .u8 u v))) w) : o.wp Tryd.prog a w K Q := by
  unfold Oper.wp execOp
  rw [ho]
  dsimp only
  rw [hx, hy]
  go_simp
  exact h
theorem wpList_xor5 {ops : Array Oper} {rest : List Oper} {o : Oper} {a : Act} {w : World} {Q : Exit → Act → World → Prop} (hgd : o.guard = none) (x y : Operand) (ho : o.op = .binOp .xor 5 x y 5) (u v : Int) (hx : a.eval x = .int .u8 u) (hy : a.eval y = .int .u8 v)
    (h : wpList Tryd.prog ops Q rest (a.put o.dst (.int .u8 (Go.bits .xor .u8 u v))) w) : wpList Tryd.prog ops Q (o :: rest) a w :=
  wpList_plain hgd fun _ hK => wp_xor5 x y ho u v hx hy (hK _ _ h)
set_option maxRecDepth 100000 in
set_option maxHeartbeats 4000000 in
theorem burst_turn : burst_c1.1.1 := by
  intro A c l n x2 x3 x4 x5 w hl h0 h1 h2 h3 h4 h5 hc d hdl HG HD HDB HWB k hkl HK HDL HKL B HWL za_1 w1 A1 c1 HB1 A2 c2 HC1 HC2 HBe wp HB2 HR1 HR2 za_2 za_3 u41 u42 u43 u44 u45 u46 u47 u48 u49 u50 u51 i HB HRD HBW HKK hi F L HR1w HR2w HF HL HFB HPL za_4 za_5 za_6 w5 Av cv za_7 za_8 HB5 HR25 v9 w9 HO9 HB9 za_9 za_10 q hq HQ hw8 hz8 wr u21 u70 u71 u72 u73 u74 u75 u76 u77 u78 u79 u80 u81 u82 u83 u84 u85 u86 u87 u88 u89 u90 u91 u92 u93 u94 u95 u96 u97 u98 u99 u100 u101 u102 u103 u104 u105 u106 u107 j xs hj HBI HO HBX hj32 hlt hj31 m hwm HWJ HM hd1 hbt hbt2 HML
  obtain ⟨n1, n2, n3, hJl, n4⟩ := burst_nums HM.out HML.out HFB.out HWL.out.2
  have hxl : xs.length = B := HBI.out.len.trans HBe.out.symm
  obtain ⟨go, co, eo, gb, gl, cl, HGo⟩ := Kd.R_form HO.out (Nat.lt_of_le_of_lt (Nat.zero_le _) (hxl ▸ hJl))
  subst eo
  obtain ⟨J, hJ⟩ : ∃ J, J = F + m / 8 := ⟨_, rfl⟩
  rw [← hJ] at n2 hJl
  obtain ⟨r, hr⟩ : ∃ r, r = m % 8 := ⟨_, rfl⟩
  have hr8 : r < 8 := hr ▸ Nat.mod_lt _ (by decide)
  rw [← hr] at n3 n4
  have HRm := Aside0.mk hr
  clear hr
  have q15 : (J : Int) < ((xs.length : Nat) : Int) := Int.ofNat_lt.2 (hxl ▸ hJl)
  have p15 : (0 : Int) ≤ (J : Int) := Int.natCast_nonneg _
  obtain ⟨hx15, hf15⟩ := Kd.R_celln 0 HO.out (J : Int) p15 q15
  have HP := Aside0.mk (Kd.R_putg HO.out (J : Int) (Go.bits .xor .u8 (rd xs (J : Int)) (shl .u8 1 (r : Int))))
  rw [Int.toNat_natCast] at hx15 hf15 HP
  have HJ := Aside0.mk hJ
  have HGB := Aside0.mk gb
  replace p15 := eq_true p15
  replace q15 := eq_true q15
  have HQZ := Aside0.mk q15
  clear gb gl HGo hJ hJl hxl HD HG HR1 HR2 HRD HBW HR1w HR2w HR25 HB1 HB2 HB HB5
  clear hl h0 h1 h3 h5 hc hdl hkl hi hj32 za_7 za_8
  go_wp2_with (first | rw [hwm] | rw [n1] | rw [n2] | (refine wpList_rem8 rfl _ rfl m r rfl n4 ?_) | (refine wpList_conv39 rfl _ rfl r rfl hr8 ?_) | (refine wpList_shl5 rfl _ rfl r rfl ?_) | (refine wpList_xor5 rfl _ _ rfl _ _ rfl rfl ?_))
  go_roundw
  case rel =>
    have hb := binv_turn HBI.out (HM.out ▸ HML.out) (HBe.out ▸ HFB.out)
    rw [← HM.out, ← HRm.out, ← HJ.out] at hb
    exact ⟨j + 1, _, hj31, by simp, ⟨hb⟩, ⟨HP.out.1⟩, ⟨below_set HBX.out HGB.out⟩⟩
  case measure => simp [intOf]; omega
end Go.Proofs.YtpnlpbbnakplhaaDoor
namespace Go.Proofs.YtpnlpbbnakplhaaDoor
open Go.RowKit Go.Proofs.YtpnlpbbnakplhaaDoorW.PrintWords Go.Proofs.YtpnlpbbnakplhaaDoorW.PrintLast Go.Proofs.YtpnlpbbnakplhaaDoorW.PrintMore
set_option linter.unusedVariables false
set_option maxRecDepth 100000 in
set_option maxHeartbeats 4000000 in
theorem burst_end : burst_c1.1.2 := by
  intro A c l n x2 x3 x4 x5 w hl h0 h1 h2 h3 h4 h5 hc d hdl HG HD HDB HWB k hkl HK HDL HKL B HWL zb_1 w1 A1 c1 HB1 A2 c2 HC1 HC2 HBe wp HB2 HR1 HR2 zb_2 zb_3 u41 u42 u43 u44 u45 u46 u47 u48 u49 u50 u51 i HB HRD HBW HKK hi F L HR1w HR2w HF HL HFB HPL zb_4 zb_5 zb_6 w5 Av cv zb_7 zb_8 HB5 HR25 v9 w9 HO9 HB9 zb_9 zb_10 q hq HQ hw8 hz8 wr u21 u70 u71 u72 u73 u74 u75 u76 u77 u78 u79 u80 u81 u82 u83 u84 u85 u86 u87 u88 u89 u90 u91 u92 u93 u94 u95 u96 u97 u98 u99 u100 u101 u102 u103 u104 u105 u106 u107 j xs hj HBI HO HBX hj32
  subst hj32
  have HBW2 := Aside0.mk (below_step HB5.out HBX.out)
  obtain ⟨Ax, cx, rfl⟩ := Kd.R_slice HO.out
  have hrx := Kd.R_reads' HO.out
  have HRX := Aside0.mk hrx.2.2
  have hxl : xs.length = B := HBI.out.len.trans HBe.out.symm
  have hB47 : B ≤ 140737488351232 := Nat.le_trans HWL.out.2 (by decide)
  have hun := chunk_Unwrap_calls Ax cx xs wr (HG.out.below HBW2.out) hrx.2.2 hrx.2.1 HBI.out.bytes (by rw [hxl]; exact hB47)
  rw [hxl] at hun
  have HUN := Aside0.mk hun
  have hburst := burst_end_law d HDL.out HDB.out HWB.out i (HK.out ▸ HKK.out) xs HBI.out.bytes q (by have := HBI.out; rw [HF.out, HL.out] at this; exact this)
  obtain ⟨E, hE⟩ : ∃ E, E = errU (ChunkPure.unwrap Z xs) := ⟨_, rfl⟩
  rw [← hE] at hburst
  have HE := Aside0.mk hE
  have HBL := Aside0.mk hburst
  have HR2x := Aside0.mk (Kd.C_below HR25.out HBX.out)
  obtain ⟨u, hu, hul, hB0⟩ := burst_cut h2 HWL.out
  have huc : u ≤ c2 := Nat.le_trans (Nat.le_of_lt hul) HC2.out
  have HU := Aside0.mk hul
  have HXL := Aside0.mk hxl
  have HX5 := Aside0.mk h5
  clear hrx hun hE hul HO HD HR1 HR2 HRD HR1w HR2w HR25 HO9 hl h0 h1 h3 h5 hc hdl hkl hi hj hburst hB47
  rw [hxl]
  clear hxl
  go_wp2_with fail
  refine HUN.out.mono ?_
  rintro e w3 ⟨v3, rfl, _, hb3⟩
  rw [← HE.out]
  have HB3 := Aside0.mk (below_step HBW2.out hb3)
  have HRX3 := Aside0.mk (Kd.C_below HRX.out hb3)
  have HR23 := Aside0.mk (Kd.C_below HR2x.out hb3)
  clear hb3 HUN
  go_wp2_with fail
  have htl : ((ChunkPure.wrap Z d).take u).length = u := by rw [List.length_take, ← HBe.out]; exact Nat.min_eq_left (Nat.le_of_lt HU.out)
  have hr23 := HR23.out
  rw [HBe.out] at hr23
  have hun := chunk_Unwrap_calls A2 c2 ((ChunkPure.wrap Z d).take u) w3 (HG.out.below HB3.out) (Kd.C_take hr23 (by rw [← HBe.out]; exact Nat.le_of_lt HU.out)) (by rw [htl]; exact huc) (bytes_take HWB.out _) (by rw [htl]; exact Nat.le_trans (Nat.le_of_lt HU.out) (Nat.le_trans HWL.out.2 (by decide)))
  rw [htl] at hun
  refine hun.mono ?_
  rintro e w4 ⟨v4, rfl, _, hb4⟩
  have hcut := burst_cut_law d HDL.out u (HBe.out ▸ HU.out)
  obtain ⟨E2, hE2⟩ : ∃ E2, E2 = errU (ChunkPure.unwrap Z ((ChunkPure.wrap Z d).take u)) := ⟨_, rfl⟩
  rw [← hE2] at hcut ⊢
  have HCUT := Aside0.mk hcut
  have HB4 := Aside0.mk (below_step HB3.out hb4)
  have HRX4 := Aside0.mk (Kd.C_below HRX3.out hb4)
  have HR24 := Aside0.mk (Kd.C_below HR23.out hb4)
  clear hb4 hun htl hr23 hE2 hcut HRX HR2x HRX3 HR23
  go_wp2_with (first | ((with_reducible refine gate_builtin (b := .append) (xs := #[.tmp 124, .tmp 125]) rfl ?_); at_builtin; refine Kd.R_append_rows (Kd.int .u8) (w0 := w4) w4.heap.size rfl (.tmp 124) (.tmp 125) 22 5 (.int .u8 0) 1 rfl Tryd.underlying22 info5 rfl (by decide) (by omega) (.slice none 0 0) ([] : List Int) (ChunkPure.wrap Z d) A2 B c2 (fun _ => True) (fun _ => False) rfl rfl ?aO ?aR (fun _ _ h => h) (fun _ h => h.elim) ?aF ?aB ?aS ?aL ?_; (case aR => exact HR24.out); (case aB => exact (Below.refl _ _)); (case aF => exact (fun _ _ => trivial)); (case aO => exact Kd.R_nil _ _ _ _ _); (case aS => exact Nat.le_refl _); (case aL => have := HWL.out; have := HBe.out; simp; omega); intro v9 w9 ho9 hb9 hg9 hat9; have HO9 := Aside0.mk ho9; have HB9 := Aside0.mk hb9; clear ho9 hb9 hg9 hat9) | ((with_reducible refine gate_builtin (b := .append) (xs := #[.tmp 127, .tmp 129]) rfl ?_); at_builtin; refine Kd.R_append (Kd.int .u8) (w0 := w4) w4.heap.size rfl (.tmp 127) (.tmp 129) 22 5 (.int .u8 0) 1 rfl Tryd.underlying22 info5 rfl (by decide) (by omega) v9 (ChunkPure.wrap Z d) x5 [.int .u8 x5] (fun _ => True) (fun _ => False) rfl rfl ?aP (fun _ hk => hk.elim) ?aF ?aO ?aB ?aS ?aL ?_; (case aO => exact HO9.out); (case aP => exact rfl); (case aB => exact HB9.out); (case aF => exact (fun _ _ => trivial)); (case aS => exact HB9.out.size); (case aL => have := HWL.out; have := HBe.out; omega); intro v8 w8 ho8 hb8 hg8 hat8; have HO8 := Aside0.mk ho8; have HB8 := Aside0.mk hb8; clear ho8 hb8 hg8 hat8))
  obtain ⟨A8, c8, rfl⟩ := Kd.R_slice HO8.out
  have hr8 := Kd.R_reads' HO8.out
  have hyl : (ChunkPure.wrap Z d ++ [x5]).length = B + 1 := by rw [List.length_append, ← HBe.out]; rfl
  have hb8 := below_step HB4.out HB8.out
  have hun := chunk_Unwrap_calls A8 c8 (ChunkPure.wrap Z d ++ [x5]) w8 (HG.out.below hb8) hr8.2.2 hr8.2.1 (bytes_append HWB.out (bytes_cons HX5.out bytes_nil)) (by rw [hyl]; exact Nat.le_trans (Nat.succ_le_succ HWL.out.2) (by decide))
  have HB5' := Aside0.mk hb8
  have HRX8 := Aside0.mk (Kd.C_below HRX4.out HB8.out)
  have HR28 := Aside0.mk (Kd.C_below HR24.out HB8.out)
  refine hun.mono ?_
  rintro e w6 ⟨v6, rfl, _, hb6⟩
  rw [burst_more_law d HDL.out x5]
  have HB6 := Aside0.mk (below_step HB5'.out hb6)
  have HRX6 := Aside0.mk (Kd.C_below HRX8.out hb6)
  have HR26 := Aside0.mk (Kd.C_below HR28.out hb6)
  clear hb6 hun hr8 hb8 hyl HRX4 HR24 HRX8 HR28 HO8 HO9 HB9
  go_wp2_with fail
  refine (known.calls _ (HG.out.below HB6.out)).mono ?_
  rintro e w7 ⟨rfl, hb7⟩
  have q1 := conv_row w7 Ax cx xs (Kd.C_below HRX6.out hb7)
  have hr27 := Kd.C_below HR26.out hb7
  rw [HBe.out] at hr27
  have q2 := conv_row w7 A2 c2 (ChunkPure.wrap Z d) hr27
  rw [HXL.out] at q1
  rw [← HBe.out] at q2
  have HB7 := Aside0.mk (below_step HB6.out hb7)
  have hbl := HBL.out
  have hcut := HCUT.out
  clear hb7 hr27
  go_wp2_with fail
  · rename_i h0
    rw [h0] at hcut
    exact absurd hcut (by decide)
  · go_ret
    refine ⟨?_, HB7.out⟩
    show Ending.returned (.bool ((E2 : Int) != 0)) = _
    rw [bne, hcut]
    rfl
theorem chunkBurst.walk (A : Option Addr) (c : Nat) (l : List Int) (n x2 x3 x4 x5 : Int) (w : World) (hG : Glob w) (hl : l.length ≤ 140737488351232) (h0 : 0 ≤ n) (h1 : n < 65536) (h2 : 0 ≤ x2 ∧ x2 < 65536) (h3 : 0 ≤ x3 ∧ x3 < 256) (h4 : 0 ≤ x4 ∧ x4 < 4294967296) (h5 : 0 ≤ x5 ∧ x5 < 256) (hr : Reads w A l) (hc : l.length ≤ c) :
    Calls Tryd.prog 7 #[.slice A l.length c, .int .u16 n, .int .u16 x2, .int .u8 x3, .int .u32 x4, .int .u8 x5] w fun e w' => e = .returned (.bool true) ∧ Below w.heap.size w w' :=
  burst_c1.2 ⟨burst_turn⟩ ⟨burst_end⟩ A c l n x2 x3 x4 x5 w hG hl h0 h1 h2 h3 h4 h5 hr hc
end Go.Proofs.YtpnlpbbnakplhaaDoor
