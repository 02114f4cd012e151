/- The chapter's examples of layer 18 ('known') answer true: the walk, over the contracts of Wrap, Unwrap and Pieces. -/
import Derived.Test.YtpnlpbbnakplhaaDoorSeqU
namespace Go.Proofs.YtpnlpbbnakplhaaDoor
open Go.RowKit Go.Shelf Go.Proofs.YtpnlpbbnakplhaaDoorW.PrintWords Go.Proofs.YtpnlpbbnakplhaaDoorW.PrintLast Go.Proofs.YtpnlpbbnakplhaaDoorW.PrintMore
set_option linter.unusedVariables false
theorem bytes_cons {c : Int} {l : List Int} (hc : Byte c) (hl : Bytes l) : Bytes (c :: l) := by
  intro x hx
  rcases List.mem_cons.1 hx with rfl | hx
  · exact hc
  · exact hl x hx
theorem bytes_nil : Bytes ([] : List Int) := fun c hc => by cases hc
theorem bytes_head (n : Nat) (hn : n ≤ 1048576) : Bytes (ChunkPure.head Z n) := by
  unfold ChunkPure.head
  refine sealL_bytes (bytes_append mark_bytes ?_)
  unfold ChunkPure.be4
  refine bytes_cons ?_ (bytes_cons ?_ (bytes_cons ?_ (bytes_cons ?_ bytes_nil))) <;> (unfold Byte; omega)
theorem bytes_part (i : Nat) (c : List Int) (hi : i < 65536) (hc : c.length ≤ 255) (hb : Bytes c) : Bytes (ChunkPure.part Z i c) := by
  unfold ChunkPure.part
  refine sealL_bytes (bytes_cons ?_ (bytes_cons ?_ (bytes_cons ?_ hb))) <;> (unfold Byte; omega)
theorem bytes_parts : ∀ (d i : Nat) (l : List Int), Bytes l → i + d ≤ 65536 → Bytes (ChunkPure.parts Z d i l).flatten
  | 0, i, l, _, _ => by simp only [ChunkPure.parts, List.flatten_nil]; exact bytes_nil
  | d + 1, i, l, hl, hd => by
    rw [ChunkPure.parts]
    by_cases h : l = []
    · rw [if_pos h]; exact bytes_nil
    · rw [if_neg h, List.flatten_cons]
      exact bytes_append (bytes_part i _ (by omega) (by rw [List.length_take]; omega) (bytes_take hl _)) (bytes_parts d (i + 1) _ (bytes_drop hl _) (by omega))
/-- Shorter than 65,536 bytes. -/
theorem bytes_wrap (b : List Int) (hb : Bytes b) (hn : b.length ≤ 65000) : Bytes (ChunkPure.wrap Z b) :=
  bytes_append (bytes_append (bytes_head _ (by omega)) (bytes_parts _ _ _ hb (by omega))) (digest_bytes _)
theorem wrapOf_short (b : List Int) (h : b.length ≤ 1048576) : wrapOf b = ChunkPure.wrap Z b := if_pos h
theorem unwrap_nil : ChunkPure.unwrap Z [] = .error 10 := by unfold ChunkPure.unwrap; rw [if_pos (by decide)]
theorem reads_marked (W : World) (g e : Nat) (xs : List Int) (fr : Nat × Nat) (hg : W.heap[g]? = some (.cells (xs.map (Value.int .u8)).toArray e fr)) (hl : xs.length ≤ 9223372036854775807) : Reads W (some ⟨g, 0, none⟩) xs := by
  refine Kd.C_of_reads (d := 0) (h1 := fun _ => rfl) ⟨rfl, hl, fun hn => ⟨_, rfl, fun j hj => ?_⟩⟩
  rw [Addr.add_lit, Nat.zero_add, cell_of_row _ _ _ _ _ _ hg]
  simp [hj]
set_option maxRecDepth 100000 in
set_option maxHeartbeats 2000000 in
theorem known.calls (w : World) (hG : Glob w) : Calls Tryd.prog 9 #[] w fun e w' => e = .returned (.bool true) ∧ Below w.heap.size w w' := by
  have kc := fun (w : World) (C : Array Value) (n c : Nat) => Lib.run_convert_bytes_const (P := Tryd.prog) w 22 5 C n c Tryd.underlying22 Tryd.underlying5
  have HG := Aside0.mk hG
  clear hG
  have hba : Bytes [97] := bytes_cons (by unfold Byte; omega) bytes_nil
  have HBW := Aside0.mk (bytes_wrap [97] hba (by decide))
  have hul : (ChunkPure.wrap Z [97]).length = 52 := by rw [ChunkPure.wrap_length]; rfl
  have hu := ChunkPure.unwrap_wrap Z [97] (by decide)
  have p0 : countOf 0 = 2 := by decide
  have p101 : countOf 101 = 4 := by decide
  have HU := Aside0.mk hu
  have HUL := Aside0.mk hul
  clear hu hul hba
  go_enter Tryd.func9, Tryd.ntmps9
  go_wp2_with fail
  have hb0 := (Below.refl w.heap.size w).alloc (Nat.le_refl _) (.cells (([97] : List Int).map (Value.int .u8)).toArray 5 (1, 2))
  have hc0 := reads_marked (w.alloc (.cells (([97] : List Int).map (Value.int .u8)).toArray 5 (1, 2))) w.heap.size 5 [97] (1, 2) (heap_alloc_new _ _) (by decide)
  refine (chunk_Wrap_calls _ _ [97] _ (HG.out.below hb0) hc0 (by decide)).mono ?_
  rintro e w1 ⟨v1, rfl, ho, hb⟩
  rw [wrapOf_short _ (by decide)] at ho
  obtain ⟨A1, c1, rfl⟩ := Kd.R_slice ho
  have HB1 := Aside0.mk (below_step hb0 hb)
  have hrd := (Kd.R_reads' ho).2
  have hun := chunk_Unwrap_calls A1 c1 (ChunkPure.wrap Z [97]) w1 (HG.out.below HB1.out) hrd.2 hrd.1 HBW.out (by rw [HUL.out]; decide)
  rw [HUL.out] at hun ⊢
  unfold RU at hun
  rw [HU.out] at hun
  have HUN := Aside0.mk hun
  clear hun hb0 hc0 hb ho hrd
  go_wp2_with fail
  refine HUN.out.mono ?_
  rintro e w2 ⟨v2, rfl, ho2, hb2⟩
  have ho2 : Row w2 w1.heap.size (fun _ => True) v2 [97] := ho2
  obtain ⟨A2, c2, rfl⟩ := Kd.R_slice ho2
  have HB2 := Aside0.mk (below_step HB1.out hb2)
  have hrd2 := (Kd.R_reads' ho2).2.2
  have hun2 := chunk_Unwrap_calls none 0 [] w2 (HG.out.below HB2.out) (Kd.C_nil _ _) (by decide) bytes_nil (by decide)
  unfold RU at hun2
  rw [unwrap_nil] at hun2
  have HUN2 := Aside0.mk hun2
  have HRD2 := Aside0.mk hrd2
  clear hun2 hb2 ho2 hrd2 HUN
  have eu0 : ((errU (Except.ok [97]) : Nat) : Int) = 0 := rfl
  have eu1 : ((errU (Except.error 10) : Nat) : Int) = 10 := rfl
  rw [eu0]
  go_wp2_with fail
  refine HUN2.out.mono ?_
  rintro e w3 ⟨v3, rfl, ho3, hb3⟩
  rw [eu1]
  have HB3 := Aside0.mk (below_step HB2.out hb3)
  have hcv : (convert 22 9 (.slice A2 1 c2)).run Tryd.prog w3 = .ok (.string (strOfNums [97])) w3 := conv_row w3 A2 c2 [97] (Kd.C_below HRD2.out hb3)
  have hst : strOfNums [97] = ({ data := #[97] } : ByteArray) := by decide
  rw [hst] at hcv
  clear ho3 hb3 hst eu0 eu1
  go_wp2_with (go_at_call 16; refine (chunk_Pieces_calls _ _).mono ?_; rintro e wp ⟨rfl, rfl⟩)
  go_ret
  exact ⟨rfl, HB3.out⟩
end Go.Proofs.YtpnlpbbnakplhaaDoor
