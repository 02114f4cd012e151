/- roadsteadref18.Wrap and Piece of the given program: the walks. -/
import Derived.Test.YtpnlpbbnakplhaaDoorRefLoop
namespace Go.Proofs.YtpnlpbbnakplhaaDoor
open Go.RowKit Go.Proofs.YtpnlpbbnakplhaaDoorW.PrintWords Go.Proofs.YtpnlpbbnakplhaaDoorW.PrintLast Go.Proofs.YtpnlpbbnakplhaaDoorW.PrintMore Go.Proofs.YtpnlpbbnakplhaaDoor.RRight
set_option linter.unusedVariables false
theorem front_len (b : List Int) : (ChunkPure.front Z b).length = 12 + b.length + 7 * ((b.length + 99) / 100) := by
  unfold ChunkPure.front
  rw [List.length_append, ChunkPure.head_length, ChunkPure.parts_length Z _ _ _ (Nat.le_refl _)]
  omega
theorem front_bytes (b : List Int) (hb : Bytes b) (hn : b.length ≤ 65000) : Bytes (ChunkPure.front Z b) := bytes_append (bytes_head _ (by omega)) (bytes_parts _ _ _ hb (by omega))
theorem digest_len (l : List Int) : (digest l).length = 32 := Z.hd l
set_option maxRecDepth 100000 in
set_option maxHeartbeats 4000000 in
theorem ref_Wrap_calls (A : Option Addr) (c : Nat) (b : List Int) (w : World) (hR : Reads w A b) (hc : b.length ≤ c) (hl : b.length ≤ 65000) (hb : Bytes b) :
    Calls Tryd.prog 10 #[.slice A b.length c] w fun e w' => ∃ v, e = .returned v ∧ Row w' w.heap.size (fun _ => True) v (ChunkPure.wrap Z b) ∧ Below w.heap.size w w' := by
  have hfr := ref_front_calls A c b w hR hc (by omega) hb
  have hfl : (ChunkPure.front Z b).length ≤ 100000 := by rw [front_len]; omega
  have hfb := front_bytes b hb hl
  have hwr : ChunkPure.wrap Z b = ChunkPure.front Z b ++ digest (ChunkPure.front Z b) := rfl
  rw [hwr]
  obtain ⟨F, hF⟩ : ∃ F, F = ChunkPure.front Z b := ⟨_, rfl⟩
  rw [← hF] at hfr hfl hfb ⊢
  obtain ⟨D, hD⟩ : ∃ D, D = digest F := ⟨_, rfl⟩
  have hDl : D.length = 32 := by rw [hD]; exact digest_len _
  have HFL := Aside0.mk hfl
  have HFB := Aside0.mk hfb
  have HD := Aside0.mk hD
  have HDL := Aside0.mk hDl
  rw [← hD]
  clear hF hD hwr hfl hfb hDl hb hR
  go_enter Tryd.func10, Tryd.ntmps10
  go_wp2_with fail
  refine hfr.mono ?_
  rintro e w1 ⟨v1, rfl, ho1, hb1⟩
  obtain ⟨A1, c1, rfl⟩ := Kd.R_slice ho1
  have HO1 := Aside0.mk ho1
  have HB1 := Aside0.mk hb1
  clear ho1 hb1 hfr
  have hsum := ref_Sum.calls A1 c1 F w1 (Kd.R_reads' HO1.out).2.2 (Kd.R_reads' HO1.out).2.1 (by have := HFL.out; omega) HFB.out
  rw [← HD.out] at hsum
  have HSUM := Aside0.mk hsum
  clear hsum
  go_wp2_with (first
    | (go_at_call 22; refine HSUM.out.mono ?_; rintro e wq ⟨rfl, hbq⟩; have HBQ := Aside0.mk hbq; clear hbq)
    | (refine wpList_alloc_row rfl 42 rfl _ info24' ?_)
    | (refine wpList_store_row rfl 42 _ _ rfl _ (part8u 32 D) rfl rfl 42 (part8u 32 []) (heap_alloc_new _ _) (by kernel_rfl) (by kernel_rfl) (p8_one _ _) ?_)
    | ((with_reducible refine gate_builtin (b := .append) (xs := #[.tmp 12, .tmp 13]) rfl ?_); at_builtin; refine Kd.R_append_rows (Kd.int .u8) (w0 := w) w.heap.size rfl (.tmp 12) (.tmp 13) 22 5 (.int .u8 0) 1 rfl Tryd.underlying22 info5 rfl (by decide) (by omega) (.slice A1 F.length c1) F D (some ⟨wq.heap.size, 0, none⟩) 32 32 (fun _ => True) (fun _ => False) rfl rfl ?aO ?aR (fun _ _ h => h) (fun _ h => h.elim) ?aF ?aB ?aS ?aL ?_; (case aR => have h := reads_of_block (setRow_heap _ _ _ (part8u D.length D) _ _ (heap_alloc_new wq (.cells (part8u 32 []) 42))) (by rw [HDL.out]; decide); unfold Reads at h; rw [HDL.out] at h; exact h); (case aB => exact below_step (below_step HB1.out HBQ.out) (below_setRow ((Below.refl _ _).alloc (Nat.le_refl _) _) (Nat.le_refl _) _)); (case aF => exact (fun _ _ => trivial)); (case aO => exact Kd.R_below HO1.out (below_step HBQ.out (below_setRow ((Below.refl _ _).alloc (Nat.le_refl _) _) (Nat.le_refl _) _))); (case aS => exact (below_step (below_step HB1.out HBQ.out) (below_setRow ((Below.refl _ _).alloc (Nat.le_refl _) (.cells (part8u 32 []) 42)) (Nat.le_refl _) (part8u 32 D))).size); (case aL => have := HFL.out; have := HDL.out; omega); intro v9 w9 ho9 hb9 hg9 hat9; have HO9 := Aside0.mk ho9; have HB9 := Aside0.mk hb9; clear ho9 hb9 hg9 hat9))
  go_ret
  exact ⟨_, rfl, HO9.out, HB9.out⟩
/-- What was handed back can be read, and nothing elder was turned. -/
def PieceRes (l : List Int) (w : World) : Ending → World → Prop := fun e w' => ∃ Av cv, e = .returned (.slice Av l.length cv) ∧ l.length ≤ cv ∧ Reads w' Av l ∧ Below w.heap.size w w'
theorem piece_of_row {l : List Int} {w w' : World} {e : Ending} (h : ∃ v, e = .returned v ∧ Row w' w.heap.size (fun _ => True) v l ∧ Below w.heap.size w w') : PieceRes l w e w' := by
  obtain ⟨v, rfl, ho, hb⟩ := h
  obtain ⟨A, c, rfl⟩ := Kd.R_slice ho
  exact ⟨A, c, rfl, (Kd.R_reads' ho).2.1, (Kd.R_reads' ho).2.2, hb⟩
theorem countOf_len (b : List Int) (hl : b.length ≤ 1048576) : countOf (b.length : Int) = ((ChunkPure.pieces Z b).length : Int) := by
  rw [ChunkPure.pieces_count]
  unfold countOf
  rw [if_pos (by omega)]
  omega
theorem piece_none (b : List Int) (i : Int) (h : i < 0 ∨ ((ChunkPure.pieces Z b).length : Int) ≤ i) : pieceOf b i = [] := by
  unfold pieceOf
  rcases h with h | h
  · rw [if_neg (by omega)]
  · rw [if_pos (by omega), List.getElem?_eq_none (by omega)]
    rfl
theorem piece_first (b : List Int) : pieceOf b 0 = ChunkPure.head Z b.length := rfl
theorem piece_mid (b : List Int) (j : Nat) (h : 100 * j < b.length) : pieceOf b ((j + 1 : Nat) : Int) = ChunkPure.part Z j ((b.drop (100 * j)).take 100) := by
  unfold pieceOf
  rw [if_pos (by omega), Int.toNat_natCast]
  have hg := ChunkPure.parts_get Z b.length 0 b j (Nat.le_refl _) (by omega)
  have hp := ChunkPure.parts_count Z b.length 0 b (Nat.le_refl _)
  unfold ChunkPure.pieces
  rw [List.getElem?_cons_succ, List.getElem?_append_left (by omega), hg, Nat.zero_add]
  rfl
theorem piece_last (b : List Int) (j : Nat) (h : j + 1 = (ChunkPure.pieces Z b).length) : pieceOf b (j : Int) = digest (ChunkPure.front Z b) := by
  have hp := ChunkPure.parts_count Z b.length 0 b (Nat.le_refl _)
  have hc := ChunkPure.pieces_count Z b
  obtain ⟨i, rfl⟩ : ∃ i, j = i + 1 := ⟨j - 1, by omega⟩
  unfold pieceOf
  rw [if_pos (by omega), Int.toNat_natCast]
  unfold ChunkPure.pieces
  rw [List.getElem?_cons_succ, List.getElem?_append_right (by omega), show i - (ChunkPure.parts Z b.length 0 b).length = 0 by omega]
  rfl
end Go.Proofs.YtpnlpbbnakplhaaDoor
