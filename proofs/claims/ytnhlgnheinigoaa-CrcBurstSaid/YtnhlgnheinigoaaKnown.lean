/- The chapter's example of layer 2 ('known') answers true: its walk, over the contracts of Sum, Seal and Right. No condition. -/
import Derived.Test.YtnhlgnheinigoaaBRightx1
import Derived.Lib.SlBytesConst
namespace Go.Proofs.Ytnhlgnheinigoaa
open Go.RowKit Go.Proofs.YtnhlgnheinigoaaW.PrintWords Go.Proofs.YtnhlgnheinigoaaW.PrintLast Go.Proofs.YtnhlgnheinigoaaW.PrintMore Go.Proofs.Ytnhlgnheinigoaa.BRight
set_option linter.unusedVariables false

theorem sum_1to9 : crc_Sum.f [49, 50, 51, 52, 53, 54, 55, 56, 57] = some 3421780262 := by decide +kernel
theorem seal_a : crc_Seal.f [97] = some [97, 67, 190, 183, 232] := by decide +kernel
theorem right_a : crc_Right.f [97, 67, 190, 183, 232] = some true := by decide +kernel
theorem right_nil : crc_Right.f [] = some false := by decide +kernel
/-- A block of bytes, whole, marked or not, as a row that is read. -/
theorem C_block (W : World) (g e : Nat) (xs : List Int) (fr : Nat × Nat) (hg : W.heap[g]? = some (.cells (xs.map (Value.int .u8)).toArray e fr)) (hl : xs.length ≤ 9223372036854775807) :
    Kd.C (Kd.int .u8) W (some ⟨g, 0, none⟩) xs.length xs := by
  refine Kd.C_of_reads (d := 0) (h1 := fun _ => rfl) ⟨rfl, hl, fun hn => ⟨_, rfl, fun j hj => ?_⟩⟩
  have hadd : (⟨g, 0, none⟩ : Addr).add j = ⟨g, j, none⟩ := by unfold Addr.add; split <;> simp_all
  rw [hadd, cell_of_row _ _ _ _ _ _ hg]
  simp [hj]
def roadsteadlaw02_known.f : Option Bool := some true
set_option maxHeartbeats 1000000 in
theorem roadsteadlaw02_known.calls (r : Bool) (w : World) (h : roadsteadlaw02_known.f = some r) :
    Calls Try.prog 8 #[] w fun e w' => e = .returned (.bool r) ∧ Below w.heap.size w w' := by
  obtain rfl := Option.some.inj h
  clear h
  have kc := fun (w : World) (C : Array Value) (n c : Nat) => Lib.run_convert_bytes_const (P := Try.prog) w 22 5 C n c Try.underlying22 Try.underlying5
  go_enter Try.func8, Try.ntmps8
  go_wp2_with fail
  have hb0 := (Below.refl w.heap.size w).alloc (Nat.le_refl _) (.cells (([49, 50, 51, 52, 53, 54, 55, 56, 57] : List Int).map (Value.int .u8)).toArray 5 (9, 10))
  have hc0 := C_block (w.alloc (.cells (([49, 50, 51, 52, 53, 54, 55, 56, 57] : List Int).map (Value.int .u8)).toArray 5 (9, 10))) w.heap.size 5 [49, 50, 51, 52, 53, 54, 55, 56, 57] (9, 10) (heap_alloc_new _ _) (by decide)
  refine (crc_Sum.calls _ _ [49, 50, 51, 52, 53, 54, 55, 56, 57] 3421780262 _ hc0 (by decide) sum_1to9).mono ?_
  rintro e w1 ⟨rfl, hb⟩
  have HB := Aside0.mk (below_step hb0 hb)
  clear hb hb0 hc0
  go_wp2_with fail
  have hb1 := HB.out.alloc HB.out.size (.cells (([97] : List Int).map (Value.int .u8)).toArray 5 (1, 2))
  have hc1 := C_block (w1.alloc (.cells (([97] : List Int).map (Value.int .u8)).toArray 5 (1, 2))) w1.heap.size 5 [97] (1, 2) (heap_alloc_new _ _) (by decide)
  refine (crc_Seal.calls _ _ [97] _ _ hc1 (by decide) seal_a).mono ?_
  rintro e w2 ⟨v2, rfl, ho, hb⟩
  have HB2 := Aside0.mk (below_step hb1 hb)
  obtain ⟨A, c, rfl⟩ := Kd.R_slice ho
  have HO := Aside0.mk ho
  clear HB hb hb1 hc1 ho
  go_wp2_with fail
  refine (crc_Right.calls _ _ [97, 67, 190, 183, 232] _ _ (Kd.R_reads' HO.out).2.2 (Kd.R_reads' HO.out).2.1 right_a).mono ?_
  rintro e w3 ⟨rfl, hb⟩
  have HB3 := Aside0.mk (below_step HB2.out hb)
  clear HB2 HO hb
  go_wp2_with fail
  refine (crc_Right.calls _ _ [] _ _ (Kd.C_nil _ _) (by decide) right_nil).mono ?_
  rintro e w4 ⟨rfl, hb⟩
  have HB4 := Aside0.mk (below_step HB3.out hb)
  clear HB3 hb
  go_wp2
  go_ret
  exact ⟨rfl, HB4.out⟩
end Go.Proofs.Ytnhlgnheinigoaa
