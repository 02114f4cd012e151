/- roadsteadref18.part of the given program: the walk. -/
import Derived.Test.YtpnlpbbnakplhaaDoorRefChunks
namespace Go.Proofs.YtpnlpbbnakplhaaDoor
open Go.RowKit Go.Proofs.YtpnlpbbnakplhaaDoorW.PrintWords Go.Proofs.YtpnlpbbnakplhaaDoorW.PrintLast Go.Proofs.YtpnlpbbnakplhaaDoorW.PrintMore Go.Proofs.YtpnlpbbnakplhaaDoor.RRight
set_option linter.unusedVariables false
attribute [local go_sem] max2_int min2_int
set_option maxRecDepth 100000 in
set_option maxHeartbeats 4000000 in
theorem ref_part_calls (A : Option Addr) (c : Nat) (l : List Int) (i : Nat) (w : World) (hR : Reads w A l) (hc : l.length ≤ c) (hi : 100 * i < l.length) (hl : l.length ≤ 1048576) (hb : Bytes l) :
    Calls Tryd.prog 32 #[.slice A l.length c, .int .i64 (i : Int)] w fun e w' => ∃ v, e = .returned v ∧ Row w' w.heap.size (fun _ => True) v (ChunkPure.part Z i ((l.drop (100 * i)).take 100)) ∧ Below w.heap.size w w' := by
  obtain ⟨ad, rfl, _⟩ := Kd.at_int hR 0 (by omega) (by omega)
  obtain ⟨C, hC⟩ : ∃ C, C = (l.drop (100 * i)).take 100 := ⟨_, rfl⟩
  have hCl : C.length ≤ 100 := by rw [hC, List.length_take]; omega
  have hRd : Reads w (some (ad.add (100 * i))) (l.drop (100 * i)) := by
    have h := Kd.C_drop (c := c) hR (m := 100 * i) (by omega) hc
    rw [if_neg (by omega), show 100 * i * (Kd.int .u8).sz = 100 * i from Nat.mul_one _] at h
    exact h
  have HRC := Aside0.mk (show Reads w (some (ad.add (100 * i))) C from by
    rw [hC]
    by_cases h : 100 ≤ (l.drop (100 * i)).length
    · exact Kd.C_take hRd h
    · rw [List.take_of_length_le (by omega)]; exact hRd)
  have HLE := Aside0.mk (show ([(i : Int) / 256, (i : Int) % 256, (C.length : Int)] ++ C : List Int) = ((i / 256 : Nat) : Int) :: ((i % 256 : Nat) : Int) :: ((C.length : Nat) : Int) :: C from rfl)
  have HBY := Aside0.mk (show Bytes ([(i : Int) / 256, (i : Int) % 256, (C.length : Int)] ++ C) from bytes_append (bytes_cons (by unfold Byte; omega) (bytes_cons (by unfold Byte; omega) (bytes_cons (by unfold Byte; omega) bytes_nil))) (by rw [hC]; exact bytes_take (bytes_drop hb _) _))
  rw [← hC]
  by_cases hf : l.length < 100 * i + 100
  · have hnl : C.length = l.length - 100 * i := by rw [hC, List.length_take, List.length_drop]; omega
    have hnc : C.length ≤ c - 100 * i := by omega
    have HNC := Aside0.mk hnc
    have HNL := Aside0.mk hnl
    have HCL := Aside0.mk hCl
    clear hR hC hCl hb hnc hnl
    have HB := Aside0.mk (Below.refl w.heap.size w)
    go_enter Tryd.func32, Tryd.ntmps32
    go_wp2_with (first | ((with_reducible refine gate_dst (N := 26) rfl ?_); refine Kd.R_lit (Kd.int .u8) _ 5 ?hg (N := 26) ?hd (xs := [(i : Int) / 256, (i : Int) % 256, ((l.length - 100 * i : Nat) : Int)]) (inner := [.int .u8 ((i : Int) / 256), .int .u8 ((i : Int) % 256), .int .u8 (((l.length - 100 * i : Nat) : Int))]) (ok := fun _ => True) (okp := fun _ => True) ?hr ?hp (fun _ hk => hk) trivial (Below.refl _ _) (Nat.le_refl _) (by simp) ?_; (case hd => rfl); (case hg => rfl); (case hr => first | (go_simp; done) | (go_simp; rfl)); (case hp => exact (Reps.one (show Kd.M (Kd.int .u8) _ _ _ ((i : Int) / 256) [.int .u8 ((i : Int) / 256)] from rfl) (Reps.one (show Kd.M (Kd.int .u8) _ _ _ ((i : Int) % 256) [.int .u8 ((i : Int) % 256)] from rfl) (Reps.one (show Kd.M (Kd.int .u8) _ _ _ (((l.length - 100 * i : Nat) : Int)) [.int .u8 (((l.length - 100 * i : Nat) : Int))] from rfl) (Reps.none _ _))))); intro v102 w5 ho6 hb hg_ hnew_; clear hg_ hnew_; have HO103 := Aside0.mk (Kd.R_lower ho6 (below_size HB.out)); have HB1 := Aside0.mk (below_step HB.out hb); clear hb ho6) | ((with_reducible refine gate_builtin (b := .append) (xs := #[.tmp 27, .tmp 28]) rfl ?_); at_builtin; refine Kd.R_append_rows (Kd.int .u8) (w0 := w) w.heap.size rfl (.tmp 27) (.tmp 28) 22 5 (.int .u8 0) 1 rfl Tryd.underlying22 info5 rfl (by decide) (by omega) v102 ([(i : Int) / 256, (i : Int) % 256, ((l.length - 100 * i : Nat) : Int)]) C (some (ad.add (100 * i))) (l.length - 100 * i) (c - 100 * i) (fun _ => True) (fun _ => False) rfl rfl ?aO ?aR (fun _ _ h => h) (fun _ h => h.elim) ?aF ?aB ?aS ?aL ?_; (case aR => have h := Kd.C_below HRC.out HB1.out; unfold Reads at h; rw [HNL.out] at h; exact h); (case aB => exact HB1.out); (case aF => exact (fun _ _ => trivial)); (case aO => exact HO103.out); (case aS => exact below_size HB1.out); (case aL => have := HCL.out; have := HNL.out; simp; omega); intro v105 w7 ho hb hg hat; have HO106 := Aside0.mk ho; have HB2 := Aside0.mk hb; clear ho hb hg hat; obtain ⟨Ao8, co8, eo8⟩ := Kd.R_slice HO106.out; subst eo8))
    have hy : ([(i : Int) / 256, (i : Int) % 256, ((l.length - 100 * i : Nat) : Int)] ++ C : List Int) = ((i / 256 : Nat) : Int) :: ((i % 256 : Nat) : Int) :: ((C.length : Nat) : Int) :: C := by rw [HNL.out]; rfl
    have hb := HBY.out
    rw [HLE.out] at hb
    have hr := Kd.R_reads' HO106.out
    rw [hy] at hr
    refine (roadsteadref02_Seal.calls 2000 Ao8 co8 (((i / 256 : Nat) : Int) :: ((i % 256 : Nat) : Int) :: ((C.length : Nat) : Int) :: C) _ w7 hr.2.2 hr.2.1 (rseal _ hb (by have := HCL.out; simp; omega) 2000 (by have := HCL.out; simp; omega))).mono ?_
    rintro e w8 ⟨v8, rfl, ho8, hb8⟩
    have HB8 := Aside0.mk (below_step HB2.out hb8)
    have HO8 := Aside0.mk (Kd.R_lower ho8 (below_size HB2.out))
    clear hr hy hb ho8 hb8
    go_wp2
    go_ret
    exact ⟨v8, rfl, HO8.out, HB8.out⟩
  · obtain ⟨K, hK⟩ : ∃ K, K = 100 := ⟨_, rfl⟩
    have hnl : C.length = K := by rw [hC, List.length_take, List.length_drop]; omega
    have hnc : C.length ≤ c - 100 * i := by omega
    have HNC := Aside0.mk hnc
    have HNL := Aside0.mk hnl
    have HCL := Aside0.mk hCl
    clear hR hC hCl hb hnc hnl
    have HB := Aside0.mk (Below.refl w.heap.size w)
    have hz : 100 * i + 100 - 100 * i = K := by omega
    have hK1 : K ≤ 100 := by omega
    clear hK
    go_enter Tryd.func32, Tryd.ntmps32
    go_wp2_with (first | rw [hz] | ((with_reducible refine gate_dst (N := 26) rfl ?_); refine Kd.R_lit (Kd.int .u8) _ 5 ?hg (N := 26) ?hd (xs := [(i : Int) / 256, (i : Int) % 256, (K : Int)]) (inner := [.int .u8 ((i : Int) / 256), .int .u8 ((i : Int) % 256), .int .u8 ((K : Int))]) (ok := fun _ => True) (okp := fun _ => True) ?hr ?hp (fun _ hk => hk) trivial (Below.refl _ _) (Nat.le_refl _) (by simp) ?_; (case hd => rfl); (case hg => rfl); (case hr => first | (go_simp; done) | (go_simp; rfl)); (case hp => exact (Reps.one (show Kd.M (Kd.int .u8) _ _ _ ((i : Int) / 256) [.int .u8 ((i : Int) / 256)] from rfl) (Reps.one (show Kd.M (Kd.int .u8) _ _ _ ((i : Int) % 256) [.int .u8 ((i : Int) % 256)] from rfl) (Reps.one (show Kd.M (Kd.int .u8) _ _ _ ((K : Int)) [.int .u8 ((K : Int))] from rfl) (Reps.none _ _))))); intro v102 w5 ho6 hb hg_ hnew_; clear hg_ hnew_; have HO103 := Aside0.mk (Kd.R_lower ho6 (below_size HB.out)); have HB1 := Aside0.mk (below_step HB.out hb); clear hb ho6) | ((with_reducible refine gate_builtin (b := .append) (xs := #[.tmp 27, .tmp 28]) rfl ?_); at_builtin; refine Kd.R_append_rows (Kd.int .u8) (w0 := w) w.heap.size rfl (.tmp 27) (.tmp 28) 22 5 (.int .u8 0) 1 rfl Tryd.underlying22 info5 rfl (by decide) (by omega) v102 ([(i : Int) / 256, (i : Int) % 256, (K : Int)]) C (some (ad.add (100 * i))) K (c - 100 * i) (fun _ => True) (fun _ => False) rfl rfl ?aO ?aR (fun _ _ h => h) (fun _ h => h.elim) ?aF ?aB ?aS ?aL ?_; (case aR => have h := Kd.C_below HRC.out HB1.out; unfold Reads at h; rw [HNL.out] at h; exact h); (case aB => exact HB1.out); (case aF => exact (fun _ _ => trivial)); (case aO => exact HO103.out); (case aS => exact below_size HB1.out); (case aL => have := HCL.out; have := HNL.out; simp; omega); intro v105 w7 ho hb hg hat; have HO106 := Aside0.mk ho; have HB2 := Aside0.mk hb; clear ho hb hg hat; obtain ⟨Ao8, co8, eo8⟩ := Kd.R_slice HO106.out; subst eo8))
    have hy : ([(i : Int) / 256, (i : Int) % 256, (K : Int)] ++ C : List Int) = ((i / 256 : Nat) : Int) :: ((i % 256 : Nat) : Int) :: ((C.length : Nat) : Int) :: C := by rw [HNL.out]; rfl
    have hb := HBY.out
    rw [HLE.out] at hb
    have hr := Kd.R_reads' HO106.out
    rw [hy] at hr
    refine (roadsteadref02_Seal.calls 2000 Ao8 co8 (((i / 256 : Nat) : Int) :: ((i % 256 : Nat) : Int) :: ((C.length : Nat) : Int) :: C) _ w7 hr.2.2 hr.2.1 (rseal _ hb (by have := HCL.out; simp; omega) 2000 (by have := HCL.out; simp; omega))).mono ?_
    rintro e w8 ⟨v8, rfl, ho8, hb8⟩
    have HB8 := Aside0.mk (below_step HB2.out hb8)
    have HO8 := Aside0.mk (Kd.R_lower ho8 (below_size HB2.out))
    clear hr hy hb ho8 hb8
    go_wp2
    go_ret
    exact ⟨v8, rfl, HO8.out, HB8.out⟩
end Go.Proofs.YtpnlpbbnakplhaaDoor
