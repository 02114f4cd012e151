/- roadsteadref18.chunks of the given program: the walk. -/
import Derived.Test.YtpnlpbbnakplhaaDoorRefFront
namespace Go.Proofs.YtpnlpbbnakplhaaDoor
open Go.RowKit Go.Proofs.YtpnlpbbnakplhaaDoorW.PrintWords Go.Proofs.YtpnlpbbnakplhaaDoorW.PrintLast Go.Proofs.YtpnlpbbnakplhaaDoorW.PrintMore Go.Proofs.YtpnlpbbnakplhaaDoor.RRight
set_option linter.unusedVariables false
attribute [local go_sem] max2_int min2_int
/-- One chunk more. -/
theorem chunks_step (d i m c : Nat) (T : List Int) (hm : 0 < m) (hc : c = min m 100) : ChunkPure.chunks Z (d + 1) i m T = (if T.length < c + 7 then .error 10
    else if ¬ ChunkPure.Right Z (T.take (c + 7)) then .error 12
    else if (T.getD 0 0) * 256 + T.getD 1 0 ≠ i ∨ T.getD 2 0 ≠ (c : Nat) then .error 11
    else match ChunkPure.chunks Z d (i + 1) (m - c) (T.drop (c + 7)) with
      | .ok (out, r) => .ok ((T.drop 3).take c ++ out, r)
      | .error e => .error e) := by rw [ChunkPure.chunks, if_neg (by omega), ← hc]; rfl
theorem trip_short (b out : List Int) (d i m c : Nat) (T : List Int) (hm : 0 < m) (hc : c = min m 100) (h : T.length < c + 7) : trip b out (ChunkPure.chunks Z (d + 1) i m T) = ([], 0, 10) := by
  rw [chunks_step d i m c T hm hc, if_pos h]; rfl
theorem trip_sum (b out : List Int) (d i m c : Nat) (T : List Int) (hm : 0 < m) (hc : c = min m 100) (h : ¬ T.length < c + 7) (hr : ¬ ChunkPure.Right Z (T.take (c + 7))) : trip b out (ChunkPure.chunks Z (d + 1) i m T) = ([], 0, 12) := by
  rw [chunks_step d i m c T hm hc, if_neg h, if_pos hr]; rfl
theorem trip_form (b out : List Int) (d i m c : Nat) (T : List Int) (hm : 0 < m) (hc : c = min m 100) (h : ¬ T.length < c + 7) (hr : ChunkPure.Right Z (T.take (c + 7))) (hf : (T.getD 0 0) * 256 + T.getD 1 0 ≠ i ∨ T.getD 2 0 ≠ (c : Nat)) : trip b out (ChunkPure.chunks Z (d + 1) i m T) = ([], 0, 11) := by
  rw [chunks_step d i m c T hm hc, if_neg h, if_neg (fun x => x hr), if_pos hf]; rfl
theorem trip_on (b out : List Int) (d i m c : Nat) (T : List Int) (hm : 0 < m) (hc : c = min m 100) (h : ¬ T.length < c + 7) (hr : ChunkPure.Right Z (T.take (c + 7))) (hf : ¬ ((T.getD 0 0) * 256 + T.getD 1 0 ≠ i ∨ T.getD 2 0 ≠ (c : Nat))) :
    trip b out (ChunkPure.chunks Z (d + 1) i m T) = trip b (out ++ (T.drop 3).take c) (ChunkPure.chunks Z d (i + 1) (m - c) (T.drop (c + 7))) := by
  rw [chunks_step d i m c T hm hc, if_neg h, if_neg (fun x => x hr), if_neg hf]
  cases ChunkPure.chunks Z d (i + 1) (m - c) (T.drop (c + 7)) with
  | error e => rfl
  | ok y => obtain ⟨o, r⟩ := y; simp only [trip, List.append_assoc]
theorem trip_end (b out : List Int) (d i at_ : Nat) (h : at_ ≤ b.length) : trip b out (ChunkPure.chunks Z d i 0 (b.drop at_)) = (out, (at_ : Int), 0) := by
  rw [chunks_any _ _ _ _ rfl]
  simp only [trip, List.append_nil, List.length_drop]
  congr 2
  omega
def TripRes (R : List Int × Int × Int) (w : World) : Ending → World → Prop := fun e w' => ∃ v, e = .returned (.tuple #[v, .int .i64 R.2.1, .int .i64 R.2.2]) ∧ Row w' w.heap.size (fun _ => True) v R.1 ∧ Below w.heap.size w w'
set_option maxRecDepth 100000 in
set_option maxHeartbeats 4000000 in
theorem ref_chunks_calls (A : Option Addr) (c0 : Nat) (b : List Int) (n : Nat) (w : World) (hR : Reads w A b) (hc : b.length ≤ c0) (hl : b.length ≤ 100000) (h12 : 12 ≤ b.length) (hn : n ≤ 4294967296) (hb : Bytes b) :
    Calls Tryd.prog 39 #[.slice A b.length c0, .int .i64 (n : Int)] w (TripRes (trip b [] (ChunkPure.chunks Z n 0 n (b.drop 12))) w) := by
  obtain ⟨R, hRR⟩ : ∃ R, R = trip b [] (ChunkPure.chunks Z n 0 n (b.drop 12)) := ⟨_, rfl⟩
  rw [← hRR]
  obtain ⟨ad, rfl, _⟩ := Kd.at_int hR 0 (by omega) (by omega)
  have HR := Aside0.mk hR
  have HBY := Aside0.mk hb
  have HRR := Aside0.mk hRR
  clear hR hb hRR
  go_enter Tryd.func39, Tryd.ntmps39
  go_wp2_with fail
  go_loopw [7, 8, 9] (fun v7 v8 v9 wr => ∃ (d i at_ : Nat) (out : List Int), v8 = .int .i64 (at_ : Int) ∧ v9 = .int .i64 (i : Int) ∧ at_ ≤ b.length ∧ out.length ≤ n ∧ i ≤ at_ ∧ out.length ≤ at_ ∧ Aside0 (n - out.length ≤ d) ∧ Aside0 (trip b out (ChunkPure.chunks Z d i (n - out.length) (b.drop at_)) = R) ∧ Aside0 (Row wr w.heap.size (fun _ => True) v7 out) ∧ Aside0 (Below w.heap.size w wr)) (fun _ v8 _ _ => b.length - (intOf v8).toNat)
  case atStart => exact ⟨n, 0, 12, [], rfl, rfl, h12, Nat.zero_le _, Nat.zero_le _, Nat.zero_le _, ⟨Nat.sub_le _ _⟩, ⟨HRR.out.symm⟩, ⟨Kd.R_nil _ _ _ _ _⟩, ⟨Below.refl _ _⟩⟩
  case round =>
    obtain ⟨d, i, at_, out, rfl, rfl, hat, hon, hia, hoa, HD, HT, HO, HB⟩ := hrel
    obtain ⟨A7, c7, rfl⟩ := Kd.R_slice HO.out
    by_cases h : out.length < n
    · obtain ⟨m, hm⟩ : ∃ m, m = n - out.length := ⟨_, rfl⟩
      obtain ⟨c, hcm⟩ : ∃ c, c = min m 100 := ⟨_, rfl⟩
      obtain ⟨d, rfl⟩ : ∃ e, d = e + 1 := ⟨d - 1, by have := HD.out; omega⟩
      have hT := HT.out
      rw [← hm] at hT
      have g2 : (if (100 : Int) < ((n : Int) - (out.length : Int)) then (100 : Int) else ((n : Int) - (out.length : Int))) = (c : Int) := by split <;> omega
      have hc1 : c ≤ 100 := by omega
      have hm0 : 0 < m := by omega
      have hmn : out.length + m = n := by omega
      have HC := Aside0.mk hcm
      have HM := Aside0.mk hm
      have HCM := Aside0.mk (show c ≤ m by omega)
      clear hcm hm
      have hdl : (b.drop at_).length = b.length - at_ := List.length_drop
      by_cases hs : b.length < at_ + (c + 7)
      · have HR0 := Aside0.mk ((trip_short b out d i m c (b.drop at_) hm0 HC.out (by omega)).symm.trans hT)
        have hd : decide ((b.length : Int) - (at_ : Int) < 7 + (c : Int)) = true := decide_eq_true (by omega)
        clear hT hdl
        go_wp2_with (first | rw [g2])
        go_ret3
        rw [← HR0.out]
        exact ⟨_, rfl, Kd.R_nil _ _ _ _ _, HB.out⟩
      · have hd : decide ((b.length : Int) - (at_ : Int) < 7 + (c : Int)) = false := decide_eq_false (by omega)
        have hz : at_ + 7 + c - at_ = c + 7 := by omega
        have hcc : c + 7 ≤ c0 - at_ := by omega
        go_wp2_with (first | rw [g2] | rw [hz])
        have htb : Bytes (b.drop at_) := bytes_drop HBY.out _
        have hT0 : Reads wr (some (ad.add at_)) (b.drop at_) := by
          have h := Kd.C_drop (c := c0) (Kd.C_below HR.out HB.out) (m := at_) hat hc
          rw [if_neg (by omega), show at_ * (Kd.int .u8).sz = at_ from Nat.mul_one _] at h
          exact h
        obtain ⟨T, hTT⟩ : ∃ T, T = b.drop at_ := ⟨_, rfl⟩
        have HTT := Aside0.mk hTT
        rw [← hTT] at hT hdl htb hT0
        clear hTT
        have htl : (T.take (c + 7)).length = c + 7 := by rw [List.length_take]; omega
        have HRT := Aside0.mk (Kd.C_take hT0 (m := c + 7) (by omega))
        have hrc := roadsteadref02_Right.calls 200000 (some (ad.add at_)) (c0 - at_) (T.take (c + 7)) _ wr HRT.out (by omega) (rright _ (bytes_take htb _) (by omega) 200000 (by omega))
        rw [htl] at hrc
        refine hrc.mono ?_
        rintro e w2 ⟨rfl, hb2⟩
        have HB2 := Aside0.mk (below_step HB.out hb2)
        have HO2 := Aside0.mk (Kd.R_below HO.out hb2)
        have HT2 := Aside0.mk (Kd.C_below hT0 hb2)
        have HTB := Aside0.mk htb
        clear hrc hb2 htl hd hT0 htb
        by_cases hr : ChunkPure.Right Z (T.take (c + 7))
        · rw [decide_eq_true hr]
          have hcells : ∀ j : Nat, j < T.length → w2.cell? ((ad.add at_).add j) = some (.int .u8 (T.getD j 0)) := by
            intro j hj
            obtain ⟨ad', e', hc'⟩ := Kd.at_int HT2.out (j : Int) (by omega) (by omega)
            cases e'
            rw [Int.toNat_natCast] at hc'
            rw [hc']
            simp [rd]
          generalize ad.add at_ = ad2 at *
          have hx0 := byte_getD HTB.out 0
          have hx1 := byte_getD HTB.out 1
          have hx2 := byte_getD HTB.out 2
          have c00 := hcells 0 (by omega)
          have c1 := hcells 1 (by omega)
          have c2 := hcells 2 (by omega)
          rw [show ad2.add 0 = ad2 from rfl] at c00
          have c1' : w2.cell? ⟨ad2.block, ad2.off + 1, none⟩ = some (.int .u8 (T.getD 1 0)) := c1
          have c2' : w2.cell? ⟨ad2.block, ad2.off + 2, none⟩ = some (.int .u8 (T.getD 2 0)) := c2
          have hdec := fun hf => (trip_on b out d i m c T hm0 HC.out (by omega) hr hf).symm.trans hT
          have hdec2 := fun hf => (trip_form b out d i m c T hm0 HC.out (by omega) hr hf).symm.trans hT
          generalize hg0 : T.getD 0 0 = x0 at *
          generalize hg1 : T.getD 1 0 = x1 at *
          generalize hg2 : T.getD 2 0 = x2 at *
          clear hcells hg0 hg1 hg2
          obtain ⟨hu0, hv0⟩ := hx0
          obtain ⟨hu1, hv1⟩ := hx1
          obtain ⟨hu2, hv2⟩ := hx2
          have HDEC := Aside0.mk hdec
          have HDEC2 := Aside0.mk hdec2
          clear hdec hdec2 hT
          by_cases hne : x0 * 256 + x1 = (i : Int)
          · have hb1 : (x0 * 256 + x1 != (i : Int)) = false := by rw [bne_eq_false_iff_eq]; exact hne
            by_cases hne2 : x2 = (c : Int)
            · have hb2 : (x2 != (c : Int)) = false := by rw [bne_eq_false_iff_eq]; exact hne2
              have HN := Aside0.mk (HDEC.out (fun h => h.elim (fun h => h hne) (fun h => h hne2)))
              clear hne hne2
              go_wp2_with fail
              go_quiet (fail)
              have hR3 := Kd.C_drop (c := c0 - at_) (Kd.C_drewN HT2.out nq) (m := 3) (by omega) (by omega)
              rw [if_neg (by omega), show 3 * (Kd.int .u8).sz = 3 from rfl] at hR3
              have hRk : Reads (w2.drewN nq) (some (ad2.add 3)) ((T.drop 3).take c) := Kd.C_take hR3 (by rw [List.length_drop]; omega)
              have hlk : ((T.drop 3).take c).length = c := by rw [List.length_take, List.length_drop]; omega
              have hRkk : Kd.C (Kd.int .u8) (w2.drewN nq) (some (ad2.add 3)) c ((T.drop 3).take c) := by have := hRk; unfold Reads at this; rwa [hlk] at this
              have HRK := Aside0.mk hRkk
              have HLK := Aside0.mk hlk
              have HO3 := Aside0.mk (Kd.R_drewN HO2.out nq)
              have HB3 := Aside0.mk (pw_below_drewN HB2.out nq)
              have HDL := Aside0.mk hdl
              clear hR3 hRk hlk hRkk c00 c1 c2 c1' c2' hdl
              have hz3 : 3 + c - 3 = c := by omega
              have hcc3 : c + 3 ≤ c0 - at_ := by omega
              generalize w2.drewN nq = w3 at *
              go_wp2_with (first | rw [hz3] | ((with_reducible refine gate_builtin (b := .append) (xs := #[.tmp 60, .tmp 64]) rfl ?_); at_builtin; refine Kd.R_append_rows (Kd.int .u8) (w0 := w) w.heap.size rfl (.tmp 60) (.tmp 64) 22 5 (.int .u8 0) 1 rfl Tryd.underlying22 info5 rfl (by decide) (by omega) (.slice A7 out.length c7) out ((T.drop 3).take c) (some (ad2.add 3)) c (c0 - at_ - 3) (fun _ => True) (fun _ => False) rfl rfl ?aO ?aR (fun _ _ h => h) (fun _ h => h.elim) ?aF ?aB ?aS ?aL ?_; (case aR => exact HRK.out); (case aB => exact HB3.out); (case aF => exact (fun _ _ => trivial)); (case aO => exact HO3.out); (case aS => exact HB3.out.size); (case aL => have := HLK.out; omega); intro v9 w9 ho9 hb9 hg9 hat9; have HO9 := Aside0.mk ho9; have HB9 := Aside0.mk hb9; clear ho9 hb9 hg9 hat9))
              go_roundw
              case rel =>
                have hlen : (out ++ (T.drop 3).take c).length = out.length + c := by rw [List.length_append, HLK.out]
                have hcm := HCM.out
                have hd := HD.out
                refine ⟨d, i + 1, at_ + (c + 7), out ++ (T.drop 3).take c, by congr 1; omega, by congr 1, by omega, by omega, by omega, by omega, ⟨by omega⟩, ⟨?_⟩, HO9, HB9⟩
                have hdd : b.drop (at_ + (c + 7)) = T.drop (c + 7) := by rw [HTT.out, List.drop_drop]
                rw [hlen, show n - (out.length + c) = m - c by omega, hdd]
                exact HN.out
              case measure =>
                have := HDL.out
                simp only [intOf]
                omega
            · have hb2 : (x2 != (c : Int)) = true := by rw [bne_iff_ne]; exact hne2
              have HR0 := Aside0.mk (HDEC2.out (.inr hne2))
              clear hne hne2
              go_wp2_with fail
              go_quiet (fail)
              go_wp2
              go_ret3
              rw [← HR0.out]
              exact ⟨_, rfl, Kd.R_nil _ _ _ _ _, by repeat (first | exact HB2.out | apply pw_below_drewN)⟩
          · have hb1 : (x0 * 256 + x1 != (i : Int)) = true := by rw [bne_iff_ne]; exact hne
            have HR0 := Aside0.mk (HDEC2.out (.inl hne))
            clear hne
            go_wp2_with fail
            go_quiet (fail)
            go_wp2
            go_ret3
            rw [← HR0.out]
            exact ⟨_, rfl, Kd.R_nil _ _ _ _ _, by repeat (first | exact HB2.out | apply pw_below_drewN)⟩
        · rw [decide_eq_false hr]
          have HR0 := Aside0.mk ((trip_sum b out d i m c T hm0 HC.out (by omega) hr).symm.trans hT)
          clear hT
          go_wp2
          go_ret3
          rw [← HR0.out]
          exact ⟨_, rfl, Kd.R_nil _ _ _ _ _, HB2.out⟩
    · have hR := HT.out
      rw [show n - out.length = 0 by omega, trip_end b out d i at_ hat] at hR
      have HR0 := Aside0.mk hR
      clear hR
      go_wp2
      go_ret3
      rw [← HR0.out]
      exact ⟨_, rfl, HO.out, HB.out⟩
end Go.Proofs.YtpnlpbbnakplhaaDoor
