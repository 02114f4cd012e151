/- roadsteadref18.Unwrap of the given program: the walk. -/
import Derived.Test.YtpnlpbbnakplhaaDoorRefPiece
namespace Go.Proofs.YtpnlpbbnakplhaaDoor
open Go.RowKit Go.Proofs.YtpnlpbbnakplhaaDoorW.PrintWords Go.Proofs.YtpnlpbbnakplhaaDoorW.PrintLast Go.Proofs.YtpnlpbbnakplhaaDoorW.PrintMore Go.Proofs.YtpnlpbbnakplhaaDoor.RRight
set_option linter.unusedVariables false
def RefU (b : List Int) (w : World) : Ending → World → Prop := fun e w' => ∃ v, e = .returned (.tuple #[v, .int .i64 (errU (ChunkPure.unwrap Z b) : Nat)]) ∧ Row w' w.heap.size (fun _ => True) v (outU (ChunkPure.unwrap Z b)) ∧ Below w.heap.size w w'
theorem chunks_suffix : ∀ (d i m : Nat) (rest o r : List Int), ChunkPure.chunks Z d i m rest = .ok (o, r) → ∃ k, k ≤ rest.length ∧ r = rest.drop k ∧ o.length + k ≤ o.length + rest.length
  | 0, i, m, rest, o, r, h => by
    rw [ChunkPure.chunks] at h
    injection h with h
    injection h with h1 h2
    exact ⟨0, Nat.zero_le _, h2.symm, by omega⟩
  | d + 1, i, m, rest, o, r, h => by
    by_cases h0 : m = 0
    · subst h0
      rw [chunks_any _ _ _ _ rfl] at h
      injection h with h
      injection h with h1 h2
      exact ⟨0, Nat.zero_le _, h2.symm, by omega⟩
    · rw [chunks_step d i m (min m 100) rest (by omega) rfl] at h
      split at h
      · cases h
      · rename_i hs
        split at h
        · cases h
        · split at h
          · cases h
          · cases hc : ChunkPure.chunks Z d (i + 1) (m - min m 100) (rest.drop (min m 100 + 7)) with
            | error e => rw [hc] at h; cases h
            | ok y =>
              obtain ⟨o2, r2⟩ := y
              rw [hc] at h
              injection h with h
              injection h with h1 h2
              subst h2
              obtain ⟨k, hk, e, _⟩ := chunks_suffix d _ _ _ _ _ hc
              rw [List.length_drop] at hk
              exact ⟨min m 100 + 7 + k, by omega, by rw [e, List.drop_drop], by omega⟩
theorem unwrap_short (b : List Int) (h : b.length < 12) : ChunkPure.unwrap Z b = .error 10 := by unfold ChunkPure.unwrap; rw [if_pos h]
theorem unwrap_sum (b : List Int) (h : ¬ b.length < 12) (hr : ¬ ChunkPure.Right Z (b.take 12)) : ChunkPure.unwrap Z b = .error 12 := by unfold ChunkPure.unwrap; rw [if_neg h, if_pos hr]
theorem unwrap_mark (b : List Int) (h : ¬ b.length < 12) (hr : ChunkPure.Right Z (b.take 12)) (hm : b.take 4 ≠ ChunkPure.mark) : ChunkPure.unwrap Z b = .error 11 := by unfold ChunkPure.unwrap; rw [if_neg h, if_neg (fun x => x hr), if_pos hm]
theorem unwrap_num (b : List Int) (h : ¬ b.length < 12) (hr : ChunkPure.Right Z (b.take 12)) (hm : b.take 4 = ChunkPure.mark) (hn : ChunkPure.num b > 1048576) : ChunkPure.unwrap Z b = .error 3 := by unfold ChunkPure.unwrap; rw [if_neg h, if_neg (fun x => x hr), if_neg (fun x => x hm), if_pos hn]
theorem unwrap_on (b : List Int) (h : ¬ b.length < 12) (hr : ChunkPure.Right Z (b.take 12)) (hm : b.take 4 = ChunkPure.mark) (n : Nat) (hnn : ChunkPure.num b = n) (hn : ¬ (n : Int) > 1048576) : ChunkPure.unwrap Z b = (match ChunkPure.chunks Z n 0 n (b.drop 12) with
    | .error e => .error e
    | .ok (out, rest) =>
      if rest.length < 32 then .error 10
      else if Z.dig (b.take (b.length - rest.length)) ≠ rest.take 32 then .error 12
      else if rest.length > 32 then .error 11
      else .ok out) := by unfold ChunkPure.unwrap; rw [if_neg h, if_neg (fun x => x hr), if_neg (fun x => x hm), hnn, if_neg hn, Int.toNat_natCast]; rfl
theorem refU_err {b : List Int} {w w' : World} {e : Nat} (h : ChunkPure.unwrap Z b = .error e) (hb : Below w.heap.size w w') : RefU b w (.returned (.tuple #[.slice none 0 0, .int .i64 (e : Int)])) w' := by
  unfold RefU
  rw [h]
  exact ⟨_, rfl, Kd.R_nil _ _ _ _ _, hb⟩
theorem refU_ok {b o : List Int} {w w' : World} {v : Value} (h : ChunkPure.unwrap Z b = .ok o) (ho : Row w' w.heap.size (fun _ => True) v o) (hb : Below w.heap.size w w') : RefU b w (.returned (.tuple #[v, .int .i64 0])) w' := by
  unfold RefU
  rw [h]
  exact ⟨_, rfl, ho, hb⟩
theorem mark_str : (strOfNums ChunkPure.mark).toList = [82, 83, 65, 49] := by decide +kernel
set_option maxRecDepth 100000 in
set_option maxHeartbeats 4000000 in
theorem ref_Unwrap_calls (A : Option Addr) (c : Nat) (b : List Int) (w : World) (hR : Reads w A b) (hc : b.length ≤ c) (hl : b.length ≤ 65000) (hb : Bytes b) :
    Calls Tryd.prog 24 #[.slice A b.length c] w (RefU b w) := by
  have HBY := Aside0.mk hb
  by_cases h12 : b.length < 12
  · have hd : decide ((b.length : Int) < 12) = true := decide_eq_true (by omega)
    go_enter Tryd.func24, Tryd.ntmps24
    go_wp2
    go_ret2
    exact refU_err (unwrap_short b h12) (Below.refl _ _)
  · have hd : decide ((b.length : Int) < 12) = false := decide_eq_false (by omega)
    obtain ⟨ad, rfl, _⟩ := Kd.at_int hR 0 (by omega) (by omega)
    have htl : (b.take 12).length = 12 := by rw [List.length_take]; omega
    have hrc := roadsteadref02_Right.calls 200 (some ad) c (b.take 12) _ w (Kd.C_take hR (by omega)) (by omega) (rright _ (bytes_take hb _) (by omega) 200 (by omega))
    rw [htl] at hrc
    have hcells : ∀ (w2 : World), Below w.heap.size w w2 → ∀ j : Nat, j < b.length → w2.cell? (ad.add j) = some (.int .u8 (b.getD j 0)) := by
      intro w2 hb2 j hj
      obtain ⟨ad', e', hc'⟩ := Kd.at_int (Kd.C_below hR hb2) (j : Int) (by omega) (by omega)
      cases e'
      rw [Int.toNat_natCast] at hc'
      rw [hc']
      simp [rd]
    have HR := Aside0.mk hR
    have HRC := Aside0.mk hrc
    have HCE := Aside0.mk hcells
    clear hR hrc hcells hb htl
    by_cases hr : ChunkPure.Right Z (b.take 12)
    · rw [decide_eq_true hr] at HRC
      have h4l : (b.take 4).length = 4 := by rw [List.length_take]; omega
      have hcv : ∀ w2, Below w.heap.size w w2 → (convert 22 9 (.slice (some ad) 4 c)).run Tryd.prog w2 = .ok (.string (strOfNums (b.take 4))) w2 := by
        intro w2 hb2
        have h := conv_row w2 (some ad) c (b.take 4) (Kd.C_take (Kd.C_below HR.out hb2) (by omega))
        rwa [h4l] at h
      have HCV := Aside0.mk hcv
      clear hcv h4l
      have hmk : ((strOfNums (b.take 4)).toList == [82, 83, 65, 49]) = decide (b.take 4 = ChunkPure.mark) := by
        have h := str_beq (bytes_take HBY.out 4) mark_bytes
        rwa [mark_str] at h
      by_cases hm : b.take 4 = ChunkPure.mark
      · rw [decide_eq_true hm] at hmk
        have hms := mark_str
        have hx4 := byte_getD HBY.out 4
        have hx5 := byte_getD HBY.out 5
        have hx6 := byte_getD HBY.out 6
        have hx7 := byte_getD HBY.out 7
        have hl4 : (4 : Int) < (b.length : Int) := by omega
        have hl5 : (5 : Int) < (b.length : Int) := by omega
        have hl6 : (6 : Int) < (b.length : Int) := by omega
        have hl7 : (7 : Int) < (b.length : Int) := by omega
        obtain ⟨n, hn⟩ : ∃ n : Nat, ChunkPure.num b = n := ⟨(ChunkPure.num b).toNat, by unfold ChunkPure.num; omega⟩
        have hnl : n ≤ 4294967295 := by have := hn; unfold ChunkPure.num at this; omega
        have hnx := hn
        unfold ChunkPure.num at hnx
        have HN := Aside0.mk hn
        clear hn
        have C4 := Aside0.mk (fun w2 hb2 => HCE.out w2 hb2 4 (by omega))
        have C5 := Aside0.mk (fun w2 hb2 => HCE.out w2 hb2 5 (by omega))
        have C6 := Aside0.mk (fun w2 hb2 => HCE.out w2 hb2 6 (by omega))
        have C7 := Aside0.mk (fun w2 hb2 => HCE.out w2 hb2 7 (by omega))
        generalize hg4 : b.getD 4 0 = x4 at *
        generalize hg5 : b.getD 5 0 = x5 at *
        generalize hg6 : b.getD 6 0 = x6 at *
        generalize hg7 : b.getD 7 0 = x7 at *
        clear hg4 hg5 hg6 hg7 HCE
        obtain ⟨hu4, hv4⟩ := hx4
        obtain ⟨hu5, hv5⟩ := hx5
        obtain ⟨hu6, hv6⟩ := hx6
        obtain ⟨hu7, hv7⟩ := hx7
        go_enter Tryd.func24, Tryd.ntmps24
        go_wp2_with fail
        refine HRC.out.mono ?_
        rintro e w2 ⟨rfl, hb2⟩
        have q4 := HCV.out w2 hb2
        have c4 : w2.cell? ⟨ad.block, ad.off + 4, none⟩ = some (.int .u8 x4) := C4.out w2 hb2
        have c5 : w2.cell? ⟨ad.block, ad.off + 5, none⟩ = some (.int .u8 x5) := C5.out w2 hb2
        have c6 : w2.cell? ⟨ad.block, ad.off + 6, none⟩ = some (.int .u8 x6) := C6.out w2 hb2
        have c7 : w2.cell? ⟨ad.block, ad.off + 7, none⟩ = some (.int .u8 x7) := C7.out w2 hb2
        have HB2 := Aside0.mk hb2
        clear hb2
        go_wp2_with fail
        go_quiet (fail)
        have HB3 := Aside0.mk (pw_below_drewN HB2.out nq)
        clear c4 c5 c6 c7 q4 C4 C5 C6 C7 HCV hnx hu4 hu5 hu6 hu7 hv4 hv5 hv6 hv7 hmk hms HB2 HRC hl4 hl5 hl6 hl7
        generalize w2.drewN nq = w3 at *
        by_cases hbig : (n : Int) > 1048576
        · have HUN := Aside0.mk (unwrap_num b h12 hr hm (by rw [HN.out]; exact hbig))
          go_wp2
          go_ret2
          exact refU_err HUN.out HB3.out
        · have hun := unwrap_on b h12 hr hm n HN.out hbig
          have hcc := ref_chunks_calls (some ad) c b n w3 (Kd.C_below HR.out HB3.out) hc (by omega) (by omega) (by omega) HBY.out
          unfold TripRes at hcc
          clear hr hm HN
          cases hch : ChunkPure.chunks Z n 0 n (b.drop 12) with
          | error er =>
            rw [hch] at hun hcc
            simp only [trip] at hcc hun
            have h0 := ChunkPure.chunks_errors Z _ _ _ _ _ hch
            have her : ((er : Int) != 0) = true := by rw [bne_iff_ne]; omega
            have HUN := Aside0.mk hun
            have HCC := Aside0.mk hcc
            clear hcc hun hch
            go_wp2_with fail
            refine HCC.out.mono ?_
            rintro e w4 ⟨v4, rfl, ho4, hb4⟩
            go_wp2
            go_ret2
            exact refU_err HUN.out (below_step HB3.out hb4)
          | ok y =>
            obtain ⟨o, r⟩ := y
            rw [hch] at hun hcc
            simp only [trip, List.nil_append] at hcc hun
            obtain ⟨k, hk, hrk, _⟩ := chunks_suffix _ _ _ _ _ _ hch
            rw [List.drop_drop] at hrk
            rw [List.length_drop] at hk
            obtain ⟨at_, hat⟩ : ∃ a, a = 12 + k := ⟨_, rfl⟩
            rw [← hat] at hrk
            have hal : at_ ≤ b.length := by omega
            have hrl : r.length = b.length - at_ := by rw [hrk, List.length_drop]
            have hbr : b.length - r.length = at_ := by omega
            rw [hbr] at hun hcc
            rw [hrl] at hun
            have HCC := Aside0.mk hcc
            have HUN := Aside0.mk hun
            clear hcc hun hch hk hrl hbr hat
            go_wp2_with fail
            refine HCC.out.mono ?_
            rintro e w4 ⟨v4, rfl, ho4, hb4⟩
            have HO4 := Aside0.mk (Kd.R_lower ho4 HB3.out.size)
            have HB4 := Aside0.mk (below_step HB3.out hb4)
            clear ho4 hb4 HCC
            by_cases hs : b.length - at_ < 32
            · have hd1 : decide ((b.length : Int) - (at_ : Int) < 32) = true := decide_eq_true (by omega)
              have hun := HUN.out
              rw [if_pos hs] at hun
              have HUN2 := Aside0.mk hun
              clear hun
              go_wp2
              go_ret2
              exact refU_err HUN2.out HB4.out
            · have hd1 : decide ((b.length : Int) - (at_ : Int) < 32) = false := decide_eq_false (by omega)
              have hbt : (b.take at_).length = at_ := by rw [List.length_take]; omega
              have hsum := ref_Sum.calls (some ad) c (b.take at_) w4 (Kd.C_take (Kd.C_below HR.out HB4.out) hal) (by omega) (by omega) (bytes_take HBY.out _)
              rw [hbt] at hsum
              obtain ⟨D, hD⟩ : ∃ D, D = digest (b.take at_) := ⟨_, rfl⟩
              rw [← hD] at hsum
              have hDl : D.length = 32 := by rw [hD]; exact digest_len _
              have hDb : Bytes D := by rw [hD]; exact digest_bytes _
              have HSUM := Aside0.mk hsum
              have HDL := Aside0.mk hDl
              have hun := HUN.out
              rw [if_neg hs, show Z.dig (b.take at_) = D from hD.symm] at hun
              have hTd : Reads w4 (some (ad.add at_)) (b.drop at_) := by
                have h := Kd.C_drop (c := c) (Kd.C_below HR.out HB4.out) (m := at_) hal hc
                rw [if_neg (by omega), show at_ * (Kd.int .u8).sz = at_ from Nat.mul_one _] at h
                exact h
              obtain ⟨T, hT⟩ : ∃ T, T = (b.drop at_).take 32 := ⟨_, rfl⟩
              have hTl : T.length = 32 := by rw [hT, List.length_take, List.length_drop]; omega
              have hTb : Bytes T := by rw [hT]; exact bytes_take (bytes_drop HBY.out _) _
              have hTR : Reads w4 (some (ad.add at_)) T := by rw [hT]; exact Kd.C_take hTd (by rw [List.length_drop]; omega)
              rw [hrk, ← hT] at hun
              have hsq := str_beq hDb hTb
              have HTR := Aside0.mk hTR
              have HTL := Aside0.mk hTl
              clear hsum hD hDl hDb hTd hT hTl hTb hTR hbt hrk HUN
              have hz : at_ + 32 - at_ = 32 := by omega
              go_wp2_with (first
                | (go_at_call 22; refine HSUM.out.mono ?_; rintro e wq ⟨rfl, hbq⟩; have HBQ := Aside0.mk hbq; clear hbq)
                | (refine wpList_alloc_row rfl 42 rfl _ info24' ?_)
                | (refine wpList_store_row rfl 42 _ _ rfl _ (part8u 32 D) rfl rfl 42 (part8u 32 []) (heap_alloc_new _ _) (by kernel_rfl) (by kernel_rfl) (p8_one _ _) ?_))
              have hbl := below_step HBQ.out (below_setRow ((Below.refl wq.heap.size wq).alloc (Nat.le_refl _) (.cells (part8u 32 []) 42)) (Nat.le_refl _) (part8u 32 D))
              have q1 : ∀ m, (convert 22 9 (.slice (some ⟨wq.heap.size, 0, none⟩) 32 32)).run Tryd.prog (((wq.alloc (.cells (part8u 32 []) 42)).setRow wq.heap.size (part8u 32 D)).drewN m) = .ok (.string (strOfNums D)) (((wq.alloc (.cells (part8u 32 []) 42)).setRow wq.heap.size (part8u 32 D)).drewN m) := by
                intro m
                have h := reads_of_block (setRow_heap _ _ _ (part8u D.length D) _ _ (heap_alloc_new wq (.cells (part8u 32 []) 42))) (by rw [HDL.out]; decide)
                have h2 := conv_row _ _ 32 D (Kd.C_drewN h m)
                rw [HDL.out] at h2
                exact h2
              have q2 : ∀ m, (convert 22 9 (.slice (some (ad.add at_)) 32 (c - at_))).run Tryd.prog (((wq.alloc (.cells (part8u 32 []) 42)).setRow wq.heap.size (part8u 32 D)).drewN m) = .ok (.string (strOfNums T)) (((wq.alloc (.cells (part8u 32 []) 42)).setRow wq.heap.size (part8u 32 D)).drewN m) := by
                intro m
                have h2 := conv_row _ _ (c - at_) T (Kd.C_drewN (Kd.C_below HTR.out hbl) m)
                rw [HTL.out] at h2
                exact h2
              have HO5 := Aside0.mk (Kd.R_below HO4.out hbl)
              have HB5 := Aside0.mk (below_step HB4.out hbl)
              have HUN := Aside0.mk hun
              clear hbl hun
              generalize (wq.alloc (.cells (part8u 32 []) 42)).setRow wq.heap.size (part8u 32 D) = w5 at *
              simp only [Act.put, List.setIfInBounds_toArray, List.set_cons_zero, List.set_cons_succ]
              by_cases hDT : D = T
              · rw [decide_eq_true hDT] at hsq
                have hun := HUN.out
                rw [if_neg (fun h => h hDT)] at hun
                clear hDT
                by_cases hlong : b.length - at_ > 32
                · rw [if_pos hlong] at hun
                  have HU2 := Aside0.mk hun
                  have hd2 : decide ((at_ : Int) + 32 < (b.length : Int)) = true := decide_eq_true (by omega)
                  clear hun
                  go_quiet (fail)
                  go_wp2
                  go_ret2
                  exact refU_err HU2.out (pw_below_drewN HB5.out nq)
                · rw [if_neg hlong] at hun
                  have HU2 := Aside0.mk hun
                  have hd2 : decide ((at_ : Int) + 32 < (b.length : Int)) = false := decide_eq_false (by omega)
                  clear hun
                  go_quiet (fail)
                  go_wp2
                  go_ret2
                  exact refU_ok HU2.out (Kd.R_drewN HO5.out nq) (pw_below_drewN HB5.out nq)
              · rw [decide_eq_false hDT] at hsq
                have hun := HUN.out
                rw [if_pos hDT] at hun
                have HU2 := Aside0.mk hun
                clear hun hDT
                go_quiet (fail)
                go_wp2
                go_ret2
                exact refU_err HU2.out (pw_below_drewN HB5.out nq)
      · rw [decide_eq_false hm] at hmk
        go_enter Tryd.func24, Tryd.ntmps24
        go_wp2_with fail
        refine HRC.out.mono ?_
        rintro e w2 ⟨rfl, hb2⟩
        have q4 := HCV.out w2 hb2
        go_wp2_with fail
        go_ret2
        exact refU_err (unwrap_mark b h12 hr hm) hb2
    · rw [decide_eq_false hr] at HRC
      go_enter Tryd.func24, Tryd.ntmps24
      go_wp2_with fail
      refine HRC.out.mono ?_
      rintro e w2 ⟨rfl, hb2⟩
      go_wp2
      go_ret2
      exact refU_err (unwrap_sum b h12 hr) hb2
end Go.Proofs.YtpnlpbbnakplhaaDoor
