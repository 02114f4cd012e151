/- The chapter's example of layer 3 ('known') answers true: its walk, over the contracts of Sum, Round and Begin. -/
import Derived.Test.YtocjjojjkcilbaaDoorShaSum
import Derived.Lib.SlBytesConst
namespace Go.Proofs.YtocjjojjkcilbaaDoor
open Go.RowKit Go.Proofs.YtocjjojjkcilbaaDoorW.PrintWords Go.Proofs.YtocjjojjkcilbaaDoorW.PrintLast Go.Proofs.YtocjjojjkcilbaaDoorW.PrintMore
set_option linter.unusedVariables false
theorem abc : (digest [97, 98, 99]).take 4 = [186, 120, 22, 191] := by decide +kernel
theorem C_block (W : World) (g e : Nat) (xs : List Int) (fr : Nat × Nat) (hg : W.heap[g]? = some (.cells (xs.map (Value.int .u8)).toArray e fr)) (hl : xs.length ≤ 9223372036854775807) :
    Kd.C (Kd.int .u8) W (some ⟨g, 0, none⟩) xs.length xs := by
  refine Kd.C_of_reads (d := 0) (h1 := fun _ => rfl) ⟨rfl, hl, fun hn => ⟨_, rfl, fun j hj => ?_⟩⟩
  have hadd : (⟨g, 0, none⟩ : Addr).add j = ⟨g, j, none⟩ := by unfold Addr.add; split <;> simp_all
  rw [hadd, cell_of_row _ _ _ _ _ _ hg]
  simp [hj]
set_option maxHeartbeats 1000000 in
theorem known.calls (w : World) (hG : Glob w) :
    Calls Tryd.prog 6 #[] w fun e w' => e = .returned (.bool true) ∧ Below w.heap.size w w' := by
  have kc := fun (w : World) (C : Array Value) (n c : Nat) => Lib.run_convert_bytes_const (P := Tryd.prog) w 22 5 C n c Tryd.underlying22 Tryd.underlying5
  have e0 : rd (digest [97, 98, 99]) ((0 : Nat) : Int) = 186 := by decide +kernel
  have e1 : rd (digest [97, 98, 99]) ((1 : Nat) : Int) = 120 := by decide +kernel
  have e2 : rd (digest [97, 98, 99]) ((2 : Nat) : Int) = 22 := by decide +kernel
  have e3 : rd (digest [97, 98, 99]) ((3 : Nat) : Int) = 191 := by decide +kernel
  have r0 : roundI 0 = 1116352408 := by decide +kernel
  have b0 : beginI 0 = 1779033703 := by decide +kernel
  have HG := Aside0.mk hG
  clear hG
  generalize hD : digest [97, 98, 99] = D at *
  have HD := Aside0.mk hD
  clear hD
  go_enter Tryd.func6, Tryd.ntmps6
  go_wp2_with fail
  have hb0 := (Below.refl w.heap.size w).alloc (Nat.le_refl _) (.cells (([97, 98, 99] : List Int).map (Value.int .u8)).toArray 5 (3, 4))
  have hc0 := C_block (w.alloc (.cells (([97, 98, 99] : List Int).map (Value.int .u8)).toArray 5 (3, 4))) w.heap.size 5 [97, 98, 99] (3, 4) (heap_alloc_new _ _) (by decide)
  refine (sha_Sum.calls _ _ [97, 98, 99] _ (HG.out.below hb0) hc0 (by decide) (by decide)).mono ?_
  rintro e w1 ⟨rfl, hb⟩
  have HB := Aside0.mk (below_step hb0 hb)
  clear hb hb0 hc0
  rw [HD.out]
  have hrow : ∀ j : Nat, j < 32 → ((w1.alloc (.cells (part8u 32 []) 24)).setRow w1.heap.size (part8u 32 D)).cell? ⟨w1.heap.size, j, none⟩ = some (.int .u8 (rd D j)) := fun j hj => by
    rw [cell_of_row _ _ _ _ _ _ (setRow_heap _ _ _ _ _ _ (heap_alloc_new _ _)), p8_at _ _ _ hj]
  have c0 := hrow 0 (by decide)
  have c1 := hrow 1 (by decide)
  have c2 := hrow 2 (by decide)
  have c3 := hrow 3 (by decide)
  rw [e0] at c0
  rw [e1] at c1
  rw [e2] at c2
  rw [e3] at c3
  clear hrow e0 e1 e2 e3
  have HB2 := Aside0.mk (below_setRow (HB.out.alloc HB.out.size (.cells (part8u 32 []) 24)) HB.out.size (part8u 32 D))
  clear HB
  go_wp2_with (first | (refine wpList_alloc_row rfl 24 rfl _ info24' ?_) | (refine wpList_store_row rfl 24 _ _ rfl _ (part8u 32 D) rfl rfl 24 (part8u 32 []) (heap_alloc_new _ _) (by kernel_rfl) (by kernel_rfl) (p8_one _ _) ?_; generalize (w1.alloc (.cells (part8u 32 []) 24)).setRow w1.heap.size (part8u 32 D) = w2 at *))
  refine (sha_Round.calls 0 w2 (HG.out.below HB2.out)).mono ?_
  rintro e w3 ⟨rfl, hd⟩
  have HB3 := Aside0.mk (below_step HB2.out hd.below)
  clear HB2 hd
  rw [r0]
  go_wp2_with fail
  refine (sha_Begin.calls 0 w3 (HG.out.below HB3.out)).mono ?_
  rintro e w4 ⟨rfl, hd⟩
  have HB4 := Aside0.mk (below_step HB3.out hd.below)
  clear HB3 hd
  rw [b0]
  go_wp2
  go_ret
  exact ⟨rfl, HB4.out⟩
end Go.Proofs.YtocjjojjkcilbaaDoor
