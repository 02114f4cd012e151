/- roadsteadlaw18.puts of the given program: the walk. -/
import Derived.Test.YtpnlpbbnakplhaaDoorRefUnwrap
namespace Go.Proofs.YtpnlpbbnakplhaaDoor
open Go.RowKit Go.Proofs.YtpnlpbbnakplhaaDoorW.PrintWords Go.Proofs.YtpnlpbbnakplhaaDoorW.PrintLast Go.Proofs.YtpnlpbbnakplhaaDoorW.PrintMore
set_option linter.unusedVariables false
/-- From here on a stronger invariant. -/
theorem restart_ {P : Program} {ops : Array Oper} {Q : Exit → Act → World → Prop} {md : Region.Mode} {S1 S2 : World → Prop} (h12 : ∀ w', S2 w' → S1 w') : ∀ {fuel : Nat} {l : Array Bool} {a : Act} {w : World} (_h2 : S2 w) (_h : wpAnyLast P md ops Q S2 [] fuel l a w), wpAnyLast P md ops Q S1 [] fuel l a w
  | 0, _, _, _, _, h => h
  | fuel + 1, l, a, w, h2, h => ⟨h.1, fun i hi => wpOp_mono (fun a' w' h' => ⟨fun _ _ => h12 _ (h'.1 (by simp) h2), restart_ h12 (h'.1 (by simp) h2) h'.2⟩) (h.2 i hi)⟩
set_option maxRecDepth 100000 in
set_option maxHeartbeats 4000000 in
theorem puts_calls (A : Option Addr) (c : Nat) (b : List Int) (i : Int) (w : World) (hG : Glob w) (hR : Reads w A b) (hc : b.length ≤ c) (hl : b.length ≤ 65000) (hb : Bytes b) :
    Calls Tryd.prog 17 #[.slice A b.length c, .int .i64 i] w fun e w' => e = .returned (.bool true) ∧ Below w.heap.size w w' := by
  have HG := Aside0.mk hG
  have HR := Aside0.mk hR
  have HBY := Aside0.mk hb
  have hwr := wrapOf_short b (by omega)
  have hwb := bytes_wrap b hb hl
  obtain ⟨X, hX⟩ : ∃ X, X = ChunkPure.wrap Z b := ⟨_, rfl⟩
  obtain ⟨Y, hY⟩ : ∃ Y, Y = pieceOf b i := ⟨_, rfl⟩
  have HX := Aside0.mk hX
  have HY := Aside0.mk hY
  have HWR := Aside0.mk hwr
  have hsX : ((strOfNums X).toList == (strOfNums X).toList) = true := beq_self_eq_true _
  have hsY : ((strOfNums Y).toList == (strOfNums Y).toList) = true := beq_self_eq_true _
  clear hG hR hb hwr hwb hX hY
  go_enter Tryd.func17, Tryd.ntmps17
  try go_wp2
  refine start_ (n := 19) (S := fun w' => Below w.heap.size w w') (ds := []) #[false, false, false, false, false, false, false, false, false, false, false, false, false, false, false, false, false, false, false] (by kernel_rfl) rfl rfl (below_drew1 (Below.refl _ _)) (fun hHeld => ?_)
  generalize w.drew = w0 at hHeld ⊢
  have HB := Aside0.mk hHeld
  refine pure_ (i := 0) (N := some 5) (v := ?_) (a' := ?_) #[true, false, false, false, false, false, false, false, false, false, false, false, false, false, false, false, false, false, false] rfl rfl (by kernel_rfl) (fun _ _ _ h => h) (Or.inl ⟨by rfl, ?_⟩) ?_ ?_
  rotate_left
  · intro w'
    go_simp
    with_reducible rfl
  rotate_left
  · simp only [Act.put, List.setIfInBounds_toArray, List.set_cons_zero, List.set_cons_succ, i64_w, i32_w]
    rfl
  refine pure_ (i := 3) (N := some 8) (v := ?_) (a' := ?_) #[true, false, false, true, false, false, false, false, false, false, false, false, false, false, false, false, false, false, false] rfl rfl (by kernel_rfl) (fun _ _ _ h => h) (Or.inl ⟨by rfl, ?_⟩) ?_ ?_
  rotate_left
  · intro w'
    go_simp
    with_reducible rfl
  rotate_left
  · simp only [Act.put, List.setIfInBounds_toArray, List.set_cons_zero, List.set_cons_succ, i64_w, i32_w]
    rfl
  refine one_ (i := 1) (N := some 6) #[true, true, false, true, false, false, false, false, false, false, false, false, false, false, false, false, false, false, false] rfl rfl (by kernel_rfl) (by decide) (fun K hK => ?_)
  refine goes_ Tryd.func15 (by kernel_rfl) rfl #[.slice A b.length c] (by rfl) rfl rfl (by simp only [List.map_toArray, List.map_cons, List.map_nil]; rfl) ?_
  have hcon := chunk_Wrap_calls A c b w0 (HG.out.below HB.out) (Kd.C_below HR.out HB.out) hc
  rw [HWR.out, ← HX.out] at hcon
  refine hcon.mono ?_
  clear hcon
  rintro e w1 ⟨v, rfl, ho, hbc⟩
  obtain ⟨A1, c1, rfl⟩ := Kd.R_slice ho
  have HR1 := Aside0.mk (Kd.R_reads' ho).2.2
  clear ho
  refine ⟨_, rfl, ?_⟩
  have HB1 := Aside0.mk (below_step HB.out hbc)
  clear hHeld
  refine hK.out _ _ HB1.out (fun hHeld => ?_)
  clear hK
  simp only [Act.put, List.setIfInBounds_toArray, List.set_cons_zero, List.set_cons_succ, i64_w, i32_w]
  refine restart_ (S2 := fun w' => Below w1.heap.size w1 w') (fun w' h => below_step HB1.out h) (Below.refl _ _) ?_
  clear hHeld hbc
  have hHeld : Below w1.heap.size w1 w1 := Below.refl _ _
  refine take_ (i := 2) (N := some 7) (v := ?_) (a' := ?_) #[true, true, true, true, false, false, false, false, false, false, false, false, false, false, false, false, false, false, false] rfl rfl (by kernel_rfl) (fun _ _ _ h => h) (Or.inl ⟨by rfl, ?_⟩) hHeld ?_ ?_
  rotate_left
  · intro w' hS
    have hcv := conv_row w' A1 c1 X (Kd.C_below HR1.out hS)
    go_simp
    with_reducible rfl
  rotate_left
  · simp only [Act.put, List.setIfInBounds_toArray, List.set_cons_zero, List.set_cons_succ, i64_w, i32_w]
    rfl
  refine one_ (i := 4) (N := some 9) #[true, true, true, true, true, false, false, false, false, false, false, false, false, false, false, false, false, false, false] rfl rfl (by kernel_rfl) (by decide) (fun K hK => ?_)
  refine goes_ Tryd.func10 (by kernel_rfl) rfl #[.slice A b.length c] (by rfl) rfl rfl (by simp only [List.map_toArray, List.map_cons, List.map_nil]; rfl) ?_
  have hcon := ref_Wrap_calls A c b w1 (Kd.C_below HR.out HB1.out) hc hl HBY.out
  rw [← HX.out] at hcon
  refine hcon.mono ?_
  clear hcon
  rintro e w2 ⟨v, rfl, ho, hbc⟩
  obtain ⟨A2, c2, rfl⟩ := Kd.R_slice ho
  have HR2 := Aside0.mk (Kd.R_reads' ho).2.2
  clear ho
  refine ⟨_, rfl, ?_⟩
  have HB2 := Aside0.mk (below_step HB1.out hbc)
  clear hHeld
  refine hK.out _ _ hbc (fun hHeld => ?_)
  clear hK
  simp only [Act.put, List.setIfInBounds_toArray, List.set_cons_zero, List.set_cons_succ, i64_w, i32_w]
  refine restart_ (S2 := fun w' => Below w2.heap.size w2 w') (fun w' h => below_step hbc h) (Below.refl _ _) ?_
  clear hHeld hbc
  have hHeld : Below w2.heap.size w2 w2 := Below.refl _ _
  refine take_ (i := 5) (N := some 10) (v := ?_) (a' := ?_) #[true, true, true, true, true, true, false, false, false, false, false, false, false, false, false, false, false, false, false] rfl rfl (by kernel_rfl) (fun _ _ _ h => h) (Or.inl ⟨by rfl, ?_⟩) hHeld ?_ ?_
  rotate_left
  · intro w' hS
    have hcv := conv_row w' A2 c2 X (Kd.C_below HR2.out hS)
    go_simp
    with_reducible rfl
  rotate_left
  · simp only [Act.put, List.setIfInBounds_toArray, List.set_cons_zero, List.set_cons_succ, i64_w, i32_w]
    rfl
  refine pure_ (i := 6) (N := some 11) (v := ?_) (a' := ?_) #[true, true, true, true, true, true, true, false, false, false, false, false, false, false, false, false, false, false, false] rfl rfl (by kernel_rfl) (fun _ _ _ h => h) (Or.inl ⟨by rfl, ?_⟩) ?_ ?_
  rotate_left
  · intro w'
    go_simp
    with_reducible rfl
  rotate_left
  · simp only [Act.put, List.setIfInBounds_toArray, List.set_cons_zero, List.set_cons_succ, i64_w, i32_w]
    rfl
  refine pure_ (i := 7) (N := some 12) (v := ?_) (a' := ?_) #[true, true, true, true, true, true, true, true, false, false, false, false, false, false, false, false, false, false, false] rfl rfl (by kernel_rfl) (fun _ _ _ h => h) (Or.inl ⟨by rfl, ?_⟩) ?_ ?_
  rotate_left
  · intro w'
    go_simp
    with_reducible rfl
  rotate_left
  · simp only [Act.put, List.setIfInBounds_toArray, List.set_cons_zero, List.set_cons_succ, i64_w, i32_w]
    rfl
  refine pure_ (i := 8) (N := some 13) (v := ?_) (a' := ?_) #[true, true, true, true, true, true, true, true, true, false, false, false, false, false, false, false, false, false, false] rfl rfl (by kernel_rfl) (fun _ _ _ h => h) (Or.inl ⟨by rfl, ?_⟩) ?_ ?_
  rotate_left
  · intro w'
    go_simp
    with_reducible rfl
  rotate_left
  · simp only [Act.put, List.setIfInBounds_toArray, List.set_cons_zero, List.set_cons_succ, i64_w, i32_w]
    rfl
  refine pure_ (i := 9) (N := some 14) (v := ?_) (a' := ?_) #[true, true, true, true, true, true, true, true, true, true, false, false, false, false, false, false, false, false, false] rfl rfl (by kernel_rfl) (fun _ _ _ h => h) (Or.inl ⟨by rfl, ?_⟩) ?_ ?_
  rotate_left
  · intro w'
    go_simp
    with_reducible rfl
  rotate_left
  · simp only [Act.put, List.setIfInBounds_toArray, List.set_cons_zero, List.set_cons_succ, i64_w, i32_w]
    rfl
  refine pure_ (i := 12) (N := some 17) (v := ?_) (a' := ?_) #[true, true, true, true, true, true, true, true, true, true, false, false, true, false, false, false, false, false, false] rfl rfl (by kernel_rfl) (fun _ _ _ h => h) (Or.inl ⟨by rfl, ?_⟩) ?_ ?_
  rotate_left
  · intro w'
    go_simp
    with_reducible rfl
  rotate_left
  · simp only [Act.put, List.setIfInBounds_toArray, List.set_cons_zero, List.set_cons_succ, i64_w, i32_w]
    rfl
  refine pure_ (i := 13) (N := some 18) (v := ?_) (a' := ?_) #[true, true, true, true, true, true, true, true, true, true, false, false, true, true, false, false, false, false, false] rfl rfl (by kernel_rfl) (fun _ _ _ h => h) (Or.inl ⟨by rfl, ?_⟩) ?_ ?_
  rotate_left
  · intro w'
    go_simp
    with_reducible rfl
  rotate_left
  · simp only [Act.put, List.setIfInBounds_toArray, List.set_cons_zero, List.set_cons_succ, i64_w, i32_w]
    rfl
  refine one_ (i := 10) (N := some 15) #[true, true, true, true, true, true, true, true, true, true, true, false, true, true, false, false, false, false, false] rfl rfl (by kernel_rfl) (by decide) (fun K hK => ?_)
  refine goes_ Tryd.func20 (by kernel_rfl) rfl #[.slice A b.length c, .int .i64 i] (by rfl) rfl rfl (by simp only [List.map_toArray, List.map_cons, List.map_nil]; rfl) ?_
  have hcon := chunk_Piece_calls A c b i w2 (HG.out.below HB2.out) (Kd.C_below HR.out HB2.out) hc (by omega)
  rw [← HY.out] at hcon
  refine hcon.mono ?_
  clear hcon
  rintro e w3 ⟨A3, c3, rfl, _, hrd, hbc⟩
  have HR3 := Aside0.mk hrd
  clear hrd
  refine ⟨_, rfl, ?_⟩
  have HB3 := Aside0.mk (below_step HB2.out hbc)
  clear hHeld
  refine hK.out _ _ hbc (fun hHeld => ?_)
  clear hK
  simp only [Act.put, List.setIfInBounds_toArray, List.set_cons_zero, List.set_cons_succ, i64_w, i32_w]
  refine restart_ (S2 := fun w' => Below w3.heap.size w3 w') (fun w' h => below_step hbc h) (Below.refl _ _) ?_
  clear hHeld hbc
  have hHeld : Below w3.heap.size w3 w3 := Below.refl _ _
  refine take_ (i := 11) (N := some 16) (v := ?_) (a' := ?_) #[true, true, true, true, true, true, true, true, true, true, true, true, true, true, false, false, false, false, false] rfl rfl (by kernel_rfl) (fun _ _ _ h => h) (Or.inl ⟨by rfl, ?_⟩) hHeld ?_ ?_
  rotate_left
  · intro w' hS
    have hcv := conv_row w' A3 c3 Y (Kd.C_below HR3.out hS)
    go_simp
    with_reducible rfl
  rotate_left
  · simp only [Act.put, List.setIfInBounds_toArray, List.set_cons_zero, List.set_cons_succ, i64_w, i32_w]
    rfl
  refine one_ (i := 14) (N := some 19) #[true, true, true, true, true, true, true, true, true, true, true, true, true, true, true, false, false, false, false] rfl rfl (by kernel_rfl) (by decide) (fun K hK => ?_)
  refine goes_ Tryd.func26 (by kernel_rfl) rfl #[.slice A b.length c, .int .i64 i] (by rfl) rfl rfl (by simp only [List.map_toArray, List.map_cons, List.map_nil]; rfl) ?_
  have hcon := ref_Piece_calls A c b i w3 (Kd.C_below HR.out HB3.out) hc hl HBY.out
  rw [← HY.out] at hcon
  refine hcon.mono ?_
  clear hcon
  rintro e w4 ⟨A4, c4, rfl, _, hrd, hbc⟩
  have HR4 := Aside0.mk hrd
  clear hrd
  refine ⟨_, rfl, ?_⟩
  have HB4 := Aside0.mk (below_step HB3.out hbc)
  clear hHeld
  refine hK.out _ _ hbc (fun hHeld => ?_)
  clear hK
  simp only [Act.put, List.setIfInBounds_toArray, List.set_cons_zero, List.set_cons_succ, i64_w, i32_w]
  refine restart_ (S2 := fun w' => Below w4.heap.size w4 w') (fun w' h => below_step hbc h) (Below.refl _ _) ?_
  clear hHeld hbc
  have hHeld : Below w4.heap.size w4 w4 := Below.refl _ _
  refine take_ (i := 15) (N := some 20) (v := ?_) (a' := ?_) #[true, true, true, true, true, true, true, true, true, true, true, true, true, true, true, true, false, false, false] rfl rfl (by kernel_rfl) (fun _ _ _ h => h) (Or.inl ⟨by rfl, ?_⟩) hHeld ?_ ?_
  rotate_left
  · intro w' hS
    have hcv := conv_row w' A4 c4 Y (Kd.C_below HR4.out hS)
    go_simp
    with_reducible rfl
  rotate_left
  · simp only [Act.put, List.setIfInBounds_toArray, List.set_cons_zero, List.set_cons_succ, i64_w, i32_w]
    rfl
  refine pure_ (i := 16) (N := some 21) (v := ?_) (a' := ?_) #[true, true, true, true, true, true, true, true, true, true, true, true, true, true, true, true, true, false, false] rfl rfl (by kernel_rfl) (fun _ _ _ h => h) (Or.inl ⟨by rfl, ?_⟩) ?_ ?_
  rotate_left
  · intro w'
    go_simp
    with_reducible rfl
  rotate_left
  · simp only [Act.put, List.setIfInBounds_toArray, List.set_cons_zero, List.set_cons_succ, i64_w, i32_w]
    rfl
  refine pure_ (i := 17) (N := some 22) (v := ?_) (a' := ?_) #[true, true, true, true, true, true, true, true, true, true, true, true, true, true, true, true, true, true, false] rfl rfl (by kernel_rfl) (fun _ _ _ h => h) (Or.inl ⟨by rfl, ?_⟩) ?_ ?_
  rotate_left
  · intro w'
    go_simp
    with_reducible rfl
  rotate_left
  · simp only [Act.put, List.setIfInBounds_toArray, List.set_cons_zero, List.set_cons_succ, i64_w, i32_w]
    rfl
  refine pure_ (i := 18) (N := some 4) (v := ?_) (a' := ?_) #[true, true, true, true, true, true, true, true, true, true, true, true, true, true, true, true, true, true, true] rfl rfl (by kernel_rfl) (fun _ _ _ h => h) (Or.inl ⟨by rfl, ?_⟩) ?_ ?_
  rotate_left
  · intro w'
    go_simp
    with_reducible rfl
  rotate_left
  · simp only [Act.put, List.setIfInBounds_toArray, List.set_cons_zero, List.set_cons_succ, i64_w, i32_w]
    rfl
  refine done_ (by kernel_rfl) ?_
  go_wp2
  go_ret
  exact ⟨by rfl, HB4.out⟩
end Go.Proofs.YtpnlpbbnakplhaaDoor
