/- MoveEnds: the law's walk. -/
import Derived.Test.YtajfefjmfelnbaaEndsPure
import Derived.Test.YtajfefjmfelnbaaKnown
import Derived.Test.YtajfefjmfelnbaaStateUse
import Derived.OpenShut
namespace Go.Proofs.Ytajfefjmfelnbaa
open Go.RowKit Go.Proofs.YtajfefjmfelnbaaW.PrintWords Go.Proofs.YtajfefjmfelnbaaW.PrintLast Go.Proofs.YtajfefjmfelnbaaW.PrintMore BState Go.ChangeShapes Go.WideShapes
set_option linter.unusedVariables false
set_option linter.unusedSimpArgs false
theorem row_below {w w' : World} {g : Nat} {o : Obj} (h : w.heap[g]? = some o) (hb : Below w.heap.size w w') : w'.heap[g]? = some o := (hb.block g (Array.getElem?_eq_some_iff.1 h).1).trans h
theorem row_alloc {w : World} {g : Nat} {o : Obj} (h : w.heap[g]? = some o) (o' : Obj) : (w.alloc o').heap[g]? = some o := (_root_.Go.heap_alloc_old _ _ (Array.getElem?_eq_some_iff.1 h).1).trans h
theorem below_alloc' {B : Nat} {w0 w : World} (h : Below B w0 w) (o : Obj) (hB : B ≤ w.heap.size) : Below B w0 (w.alloc o) := h.alloc hB o
theorem cells23 {w : World} {g : Nat} {f t c : Int} {b : Bool} (h : w.heap[g]? = some (.cells #[.int .i64 f, .int .i64 t, .int .i64 c, .bool b] 23 (0, 0))) : w.cell? ⟨g, 0, none⟩ = some (.int .i64 f) ∧ w.cell? ⟨g, 1, none⟩ = some (.int .i64 t) ∧ w.cell? ⟨g, 2, none⟩ = some (.int .i64 c) ∧ w.cell? ⟨g, 3, none⟩ = some (.bool b) := by
  refine ⟨?_, ?_, ?_, ?_⟩ <;> (rw [cell_of_row _ _ _ _ _ _ h]; rfl)
theorem cells34 {w : World} {g : Nat} {f t c : Int} {b : Value} (h : w.heap[g]? = some (.cells #[.int .i64 f, .int .i64 t, .int .i64 c, b] 34 (0, 0))) : w.cell? ⟨g, 0, none⟩ = some (.int .i64 f) ∧ w.cell? ⟨g, 1, none⟩ = some (.int .i64 t) ∧ w.cell? ⟨g, 2, none⟩ = some (.int .i64 c) ∧ w.cell? ⟨g, 3, none⟩ = some b := by
  refine ⟨?_, ?_, ?_, ?_⟩ <;> (rw [cell_of_row _ _ _ _ _ _ h]; rfl)
set_option maxRecDepth 100000 in
set_option maxHeartbeats 8000000 in
theorem moveEnds.walk (A : Option Addr) (cc : Nat) (l : List Int) (k : Int) (A2 : Option Addr) (n2 c2 : Nat) (w : World) (hC : Kd.C (Kd.int .u8) w A l.length l) (hc : l.length ≤ cc) (hb : Bytes l) (hk : 0 ≤ k ∧ k ≤ 255) (hT : ∀ j, j < n2 → ∃ (x : Addr) (b : Bool), A2 = some x ∧ w.cell? (x.add j) = some (.bool b)) :
    Calls Try.prog 4 #[.slice A l.length cc, .int .u8 k, .slice A2 n2 c2] w fun e w' => e = .returned (.bool true) ∧ Below w.heap.size w w' := by
  obtain ⟨s0, s1, s2, S, hF, hst⟩ := state_use l hb
  have HF := Aside0.mk hF
  have HST := Aside0.mk hst
  have HC := Aside0.mk hC
  have HCC := Aside0.mk hc
  have HK := Aside0.mk hk
  have HTT := Aside0.mk hT
  have hS6 : S.length ≤ 6 := hF.1
  clear hF hst hC hc hk hb hT
  have hu34 := Try.underlying34
  have hu23 := Try.underlying23
  go_enter Try.func4, Try.ntmps4
  go_wp2_with fail
  refine (HST.out A cc w HC.out HCC.out).mono ?_
  rintro e w1 ⟨AS, cS, rfl, hcS, hCS, hb⟩
  have HB1 := Aside0.mk hb
  have HCS := Aside0.mk hCS
  have HcS := Aside0.mk hcS
  clear hb hCS hcS
  obtain ⟨f, t, c, d, hmx⟩ : ∃ f t c d, mixI k = (f, t, c, d) := ⟨_, _, _, _, rfl⟩
  have HRI : Aside0 (RightI f t c d) := ⟨by have := mix_right k HK.out.1 HK.out.2; rw [hmx] at this; exact this⟩
  have HMX := Aside0.mk hmx
  clear hmx
  go_wp2_with fail
  have Rs : Aside0 ((w1.alloc (.cells #[.int .i64 s0, .int .i64 s1, .int .i64 s2, .slice AS S.length cS] 34)).heap[w1.heap.size]? = some (.cells #[.int .i64 s0, .int .i64 s1, .int .i64 s2, .slice AS S.length cS] 34 (0, 0))) := ⟨heap_alloc_new _ _⟩
  have HB := Aside0.mk ((Below.refl w1.heap.size w1).alloc (Nat.le_refl _) (.cells #[.int .i64 s0, .int .i64 s1, .int .i64 s2, .slice AS S.length cS] 34))
  generalize hgs_ : w1.heap.size = gs at Rs
  have GS : Aside0 (w1.heap.size = gs) := ⟨hgs_⟩
  clear hgs_
  generalize w1.alloc (.cells #[.int .i64 s0, .int .i64 s1, .int .i64 s2, .slice AS S.length cS] 34) = w2 at *
  refine (mix.walk k HK.out.1 HK.out.2 _).mono ?_
  rintro e w3 ⟨rfl, hb⟩
  rw [HMX.out]
  have Rs' := Aside0.mk (row_below Rs.out hb)
  have HB' := Aside0.mk (below_step HB.out hb)
  clear hb HB Rs
  have HB := HB'
  have Rs := Rs'
  clear HB' Rs'
  clear HMX
  have NEm : Aside0 (gs < w3.heap.size) := ⟨(Array.getElem?_eq_some_iff.1 Rs.out).1⟩
  have GEm : Aside0 (w1.heap.size ≤ w3.heap.size) := ⟨by have := HB.out.size; omega⟩
  have Rs' : Aside0 ((w3.alloc (.cells #[.int .i64 f, .int .i64 t, .int .i64 c, .bool d] 23)).heap[gs]? = _) := ⟨row_alloc Rs.out _⟩
  have Rm' : Aside0 ((w3.alloc (.cells #[.int .i64 f, .int .i64 t, .int .i64 c, .bool d] 23)).heap[w3.heap.size]? = _) := ⟨heap_alloc_new _ _⟩
  have HB' : Aside0 (Below w1.heap.size w1 (w3.alloc (.cells #[.int .i64 f, .int .i64 t, .int .i64 c, .bool d] 23))) := ⟨below_alloc' HB.out _ GEm.out⟩
  by_cases hT4 : 40 < n2
  · have hd4 : decide ((40 : Int) < (n2 : Int)) = true := decide_eq_true (by omega)
    go_wp2_with fail
    refine (known.walk _).mono ?_
    rintro e w9 ⟨rfl, hb⟩
    go_wp2
    go_ret
    exact ⟨by first | rfl | simp, below_step HB1.out (below_step HB'.out hb)⟩
  · have hd4 : decide ((40 : Int) < (n2 : Int)) = false := decide_eq_false (by omega)
    go_wp2_with fail
    clear HB Rs hd4
    have HB := HB'
    have Rs := Rs'
    have Rm := Rm'
    clear HB' Rs' Rm'
    generalize hg_ : w3.heap.size = gm at *
    generalize (w3.alloc (.cells #[.int .i64 f, .int .i64 t, .int .i64 c, .bool d] 23)) = w4 at *
    clear hg_ w3
    have NE_Rs_Rm : Aside0 (gs ≠ gm) := ⟨Nat.ne_of_lt NEm.out⟩
    have GE_Rm := GEm
    clear NEm GEm
    have HN2 : Aside0 (n2 ≤ 40) := ⟨by omega⟩
    clear hT4
    go_loopw [9] (fun v9 wr => ∃ (i : Nat) (f t c : Int) (d : Bool), i ≤ n2 ∧ v9 = .int .i64 (i : Int) ∧ Aside0 (RightI f t c d) ∧ Aside0 (wr.heap[gs]? = some (.cells #[.int .i64 s0, .int .i64 s1, .int .i64 s2, .slice AS S.length cS] 34 (0, 0))) ∧ Aside0 (wr.heap[gm]? = some (.cells #[.int .i64 f, .int .i64 t, .int .i64 c, .bool d] 23 (0, 0))) ∧ Aside0 (Below w1.heap.size w1 wr)) (fun v9 _ => ((n2 : Int) - intOf v9).toNat)
    case atStart => exact ⟨0, f, t, c, d, Nat.zero_le _, rfl, HRI, Rs, Rm, HB⟩
    case round =>
      clear HRI Rs Rm HB w4
      obtain ⟨i, f, t, c, d, hi, rfl, HRI, Rs, Rm, HB⟩ := hrel
      by_cases hlt : i < n2
      · have hdl : decide ((i : Int) < (n2 : Int)) = true := decide_eq_true (by omega)
        obtain ⟨x2, bo, hA2, hx2⟩ := HTT.out i hlt
        subst hA2
        have hlt_ := World.block_lt_of_cell? w _ hx2
        have hx3 : wr.cell? (x2.add i) = some (.bool bo) := ((below_step HB1.out HB.out).cell hlt_).trans hx2
        clear hx2 hlt_
        cases bo with
        | false =>
          have HLL := Aside0.mk (left_pure HF.out (by omega) 100 f t c d s0 s1 s2 (by have := left_le HF.out f t c d; omega))
          go_wp2_with (first | (refine wpList_load_row rfl 34 _ rfl (gs) rfl 34 #[.int .i64 s0, .int .i64 s1, .int .i64 s2, .slice AS S.length cS] (0, 0) _ Rs.out Try.underlying34 rfl size34 ?_) | (refine wpList_load_row rfl 23 _ rfl (gm) rfl 23 #[.int .i64 f, .int .i64 t, .int .i64 c, .bool d] (0, 0) _ Rm.out Try.underlying23 rfl size23 ?_))
          refine (BLeft.move_Left.calls 100 f t c d s0 s1 s2 AS cS S _ _ (Kd.C_below HCS.out HB.out) HcS.out HLL.out).mono ?_
          rintro e w5 ⟨rfl, hb⟩
          have Rs' := Aside0.mk (row_below Rs.out hb)
          have Rm' := Aside0.mk (row_below Rm.out hb)
          have HB' := Aside0.mk (below_step HB.out hb)
          clear hb HB Rs Rm
          have HB := HB'
          have Rs := Rs'
          have Rm := Rm'
          clear HB' Rs' Rm'
          clear HLL
          have HRS := Aside0.mk (right_step HF.out HRI.out)
          have HOK := Aside0.mk (step_ok HF.out f t c d)
          have HLS := Aside0.mk (left_step HF.out f t c d)
          have HLN := Aside0.mk (left_len f t c d S)
          obtain ⟨f2, t2, c3, d2, o2, hs2⟩ : ∃ f2 t2 c3 d2 o2, stepI f t c d S = (f2, t2, c3, d2, o2) := ⟨_, _, _, _, _, rfl⟩
          have HS2 := Aside0.mk hs2
          clear hs2
          rw [HS2.out] at HRS HOK HLS
          obtain ⟨L, hL⟩ : ∃ L, left f t c d S = L := ⟨_, rfl⟩
          rw [hL] at HLS HLN ⊢
          clear hL
          go_wp2_with (first | (refine wpList_load_row rfl 34 _ rfl (gs) rfl 34 #[.int .i64 s0, .int .i64 s1, .int .i64 s2, .slice AS S.length cS] (0, 0) _ Rs.out Try.underlying34 rfl size34 ?_) | (refine wpList_load_row rfl 23 _ rfl (gm) rfl 23 #[.int .i64 f, .int .i64 t, .int .i64 c, .bool d] (0, 0) _ Rm.out Try.underlying23 rfl size23 ?_))
          refine (step.walk f t c d s0 s1 s2 AS cS S _ (Kd.C_below HCS.out HB.out) HcS.out (by omega)).mono ?_
          rintro e w6 ⟨rfl, hb⟩
          rw [HS2.out]
          have Rs' := Aside0.mk (row_below Rs.out hb)
          have Rm' := Aside0.mk (row_below Rm.out hb)
          have HB' := Aside0.mk (below_step HB.out hb)
          clear hb HB Rs Rm
          have HB := HB'
          have Rs := Rs'
          have Rm := Rm'
          clear HB' Rs' Rm'
          clear HS2
          have NEt : Aside0 (gs < w6.heap.size) := ⟨(Array.getElem?_eq_some_iff.1 Rs.out).1⟩
          have NEn : Aside0 (gm < w6.heap.size) := ⟨(Array.getElem?_eq_some_iff.1 Rm.out).1⟩
          have Rs' : Aside0 ((w6.alloc (.cells #[.int .i64 f2, .int .i64 t2, .int .i64 c3, .bool d2] 23)).heap[gs]? = _) := ⟨row_alloc Rs.out _⟩
          have Rm' : Aside0 ((w6.alloc (.cells #[.int .i64 f2, .int .i64 t2, .int .i64 c3, .bool d2] 23)).heap[gm]? = _) := ⟨row_alloc Rm.out _⟩
          have Rt' : Aside0 ((w6.alloc (.cells #[.int .i64 f2, .int .i64 t2, .int .i64 c3, .bool d2] 23)).heap[w6.heap.size]? = _) := ⟨heap_alloc_new _ _⟩
          have HB' : Aside0 (Below w1.heap.size w1 (w6.alloc (.cells #[.int .i64 f2, .int .i64 t2, .int .i64 c3, .bool d2] 23))) := ⟨below_alloc' HB.out _ (by have := HB.out.size; omega)⟩
          go_upto_region 13 with fail
          clear HB Rs Rm
          have HB := HB'
          have Rs := Rs'
          have Rm := Rm'
          have Rt := Rt'
          clear HB' Rs' Rm' Rt'
          generalize hg_ : w6.heap.size = gt_7 at *
          generalize (w6.alloc (.cells #[.int .i64 f2, .int .i64 t2, .int .i64 c3, .bool d2] 23)) = w7 at *
          clear hg_ w6
          have HLX := Aside0.mk (left_pure HF.out (by omega) 100 f2 t2 c3 d2 s0 s1 s2 (by have := left_le HF.out f2 t2 c3 d2; omega))
          have HRX := Aside0.mk (right_pure HRS.out)
          have hLN := HLN.out
          have hgn : decide (((S.length : Int) + 1) < (L : Int)) = false := decide_eq_false (by omega)
          have hsum : wrap64 ((S.length : Int) + 1) = (S.length : Int) + 1 := by unfold wrap64; omega
          by_cases hft : f = t
          · obtain rfl : o2 = false := by rw [HOK.out]; simp [hft]
            have hne : (f != t) = false := by simp [hft]
            have hne2 : (f == t) = true := by simp [hft]
            clear HOK
            clear HLS
            clear HLX
            have NE_Rs_Rt : Aside0 (gs ≠ gt_7) := ⟨Nat.ne_of_lt NEt.out⟩
            have NE_Rt_Rm : Aside0 (gt_7 ≠ gm) := ⟨Nat.ne_of_gt NEn.out⟩
            obtain ⟨cRs0, cRs1, cRs2, cRs3⟩ := cells34 Rs.out
            obtain ⟨cRm0, cRm1, cRm2, cRm3⟩ := cells23 Rm.out
            obtain ⟨cRt0, cRt1, cRt2, cRt3⟩ := cells23 Rt.out
            go_upto_region 15 with (first | ((with_reducible refine gate_callee (f := 16) rfl ?_); refine gate_guard rfl ?_; refine goesL_ (some 72) rfl rfl Try.func16 (by kernel_rfl) rfl #[.agg #[.int .i64 f2, .int .i64 t2, .int .i64 c3, .bool d2]] rfl (by (try simp only [List.map_toArray, List.map_cons, List.map_nil]); first | done | rfl) ?_; refine (BRight.roadsteadref15_Right.calls 1 f2 t2 c3 d2 true _ HRX.out).mono ?_; rintro e w9 ⟨rfl, hb⟩; refine ⟨_, rfl, ?_⟩; have Rs' := Aside0.mk (row_below Rs.out hb); have Rm' := Aside0.mk (row_below Rm.out hb); have Rt' := Aside0.mk (row_below Rt.out hb); have HB' := Aside0.mk (below_step HB.out hb); clear hb HB Rs Rm Rt cRs0 cRs1 cRs2 cRs3 cRm0 cRm1 cRm2 cRm3 cRt0 cRt1 cRt2 cRt3; have HB := HB'; have Rs := Rs'; have Rm := Rm'; have Rt := Rt'; clear HB' Rs' Rm' Rt'; obtain ⟨cRs0, cRs1, cRs2, cRs3⟩ := cells34 Rs.out; obtain ⟨cRm0, cRm1, cRm2, cRm3⟩ := cells23 Rm.out; obtain ⟨cRt0, cRt1, cRt2, cRt3⟩ := cells23 Rt.out))
            (try simp only [Act.put, List.setIfInBounds_toArray, List.set_cons_zero, List.set_cons_succ])
            clear cRs0 cRs1 cRs2 cRs3 cRm0 cRm1 cRm2 cRm3 cRt0 cRt1 cRt2 cRt3
            clear HRX
            have hw1 : wrap64 ((i : Int) + 1) = (i : Int) + 1 := by have := HN2.out; unfold wrap64; omega
            have Rs' := Aside0.mk ((setRow_other w9 _ _ (#[.int .i64 f2, .int .i64 t2, .int .i64 c3, .bool d2]) (show gs ≠ gm from NE_Rs_Rm.out)).trans Rs.out)
            have Rt' := Aside0.mk ((setRow_other w9 _ _ (#[.int .i64 f2, .int .i64 t2, .int .i64 c3, .bool d2]) (show gt_7 ≠ gm from NE_Rt_Rm.out)).trans Rt.out)
            have Rm' := Aside0.mk (setRow_heap w9 _ _ (#[.int .i64 f2, .int .i64 t2, .int .i64 c3, .bool d2]) _ _ Rm.out)
            have HB' := Aside0.mk (below_setRow HB.out (GE_Rm.out) (#[.int .i64 f2, .int .i64 t2, .int .i64 c3, .bool d2]))
            go_wp2_with (first | (refine wpList_load_row rfl 34 _ rfl (gs) rfl 34 #[.int .i64 s0, .int .i64 s1, .int .i64 s2, .slice AS S.length cS] (0, 0) _ Rs.out Try.underlying34 rfl size34 ?_) | (refine wpList_load_row rfl 23 _ rfl (gm) rfl 23 #[.int .i64 f, .int .i64 t, .int .i64 c, .bool d] (0, 0) _ Rm.out Try.underlying23 rfl size23 ?_) | (refine wpList_load_row rfl 23 _ rfl (gt_7) rfl 23 #[.int .i64 f2, .int .i64 t2, .int .i64 c3, .bool d2] (0, 0) _ Rt.out Try.underlying23 rfl size23 ?_) | (refine wpList_store_row rfl 23 _ _ rfl (gm) #[.int .i64 f2, .int .i64 t2, .int .i64 c3, .bool d2] rfl rfl 23 #[.int .i64 f, .int .i64 t, .int .i64 c, .bool d] Rm.out size23 rfl (mixOne _ _ _ _) ?_))
            exact ⟨⟨i + 1, f2, t2, c3, d2, by omega, by first | (rw [hw1]; go_num) | go_num, HRS, Rs', Rm', HB'⟩, by (try rw [hw1]); show ((n2 : Int) - ((i : Int) + 1)).toNat < ((n2 : Int) - i).toNat; omega⟩
          · obtain rfl : o2 = true := by rw [HOK.out]; simp [hft]
            have hne : (f != t) = true := by simp [hft]
            have hne2 : (f == t) = false := by simp [hft]
            clear HOK
            have hls := HLS.out hft
            obtain ⟨L2, hL2⟩ : ∃ L2, left f2 t2 c3 d2 S = L2 := ⟨_, rfl⟩
            rw [hL2] at hls
            rw [hL2] at HLX
            clear hL2
            have hsub : wrap64 ((L : Int) - 1) = (L2 : Int) := by unfold wrap64; omega
            clear HLS
            have NE_Rs_Rt : Aside0 (gs ≠ gt_7) := ⟨Nat.ne_of_lt NEt.out⟩
            have NE_Rt_Rm : Aside0 (gt_7 ≠ gm) := ⟨Nat.ne_of_gt NEn.out⟩
            obtain ⟨cRs0, cRs1, cRs2, cRs3⟩ := cells34 Rs.out
            obtain ⟨cRm0, cRm1, cRm2, cRm3⟩ := cells23 Rm.out
            obtain ⟨cRt0, cRt1, cRt2, cRt3⟩ := cells23 Rt.out
            go_upto_region 15 with (first | ((with_reducible refine gate_callee (f := 14) rfl ?_); refine gate_guard rfl ?_; refine goesL_ (some 64) rfl rfl Try.func14 (by kernel_rfl) rfl #[.agg #[.int .i64 f2, .int .i64 t2, .int .i64 c3, .bool d2], .agg #[.int .i64 s0, .int .i64 s1, .int .i64 s2, .slice AS S.length cS]] rfl (by (try simp only [List.map_toArray, List.map_cons, List.map_nil]); first | done | rfl) ?_; refine (BLeft.move_Left.calls 100 f2 t2 c3 d2 s0 s1 s2 AS cS S _ _ (Kd.C_below HCS.out HB.out) HcS.out HLX.out).mono ?_; rintro e w9 ⟨rfl, hb⟩; refine ⟨_, rfl, ?_⟩; have Rs' := Aside0.mk (row_below Rs.out hb); have Rm' := Aside0.mk (row_below Rm.out hb); have Rt' := Aside0.mk (row_below Rt.out hb); have HB' := Aside0.mk (below_step HB.out hb); clear hb HB Rs Rm Rt cRs0 cRs1 cRs2 cRs3 cRm0 cRm1 cRm2 cRm3 cRt0 cRt1 cRt2 cRt3; have HB := HB'; have Rs := Rs'; have Rm := Rm'; have Rt := Rt'; clear HB' Rs' Rm' Rt'; obtain ⟨cRs0, cRs1, cRs2, cRs3⟩ := cells34 Rs.out; obtain ⟨cRm0, cRm1, cRm2, cRm3⟩ := cells23 Rm.out; obtain ⟨cRt0, cRt1, cRt2, cRt3⟩ := cells23 Rt.out) | ((with_reducible refine gate_callee (f := 16) rfl ?_); refine gate_guard rfl ?_; refine goesL_ (some 72) rfl rfl Try.func16 (by kernel_rfl) rfl #[.agg #[.int .i64 f2, .int .i64 t2, .int .i64 c3, .bool d2]] rfl (by (try simp only [List.map_toArray, List.map_cons, List.map_nil]); first | done | rfl) ?_; refine (BRight.roadsteadref15_Right.calls 1 f2 t2 c3 d2 true _ HRX.out).mono ?_; rintro e w9 ⟨rfl, hb⟩; refine ⟨_, rfl, ?_⟩; have Rs' := Aside0.mk (row_below Rs.out hb); have Rm' := Aside0.mk (row_below Rm.out hb); have Rt' := Aside0.mk (row_below Rt.out hb); have HB' := Aside0.mk (below_step HB.out hb); clear hb HB Rs Rm Rt cRs0 cRs1 cRs2 cRs3 cRm0 cRm1 cRm2 cRm3 cRt0 cRt1 cRt2 cRt3; have HB := HB'; have Rs := Rs'; have Rm := Rm'; have Rt := Rt'; clear HB' Rs' Rm' Rt'; obtain ⟨cRs0, cRs1, cRs2, cRs3⟩ := cells34 Rs.out; obtain ⟨cRm0, cRm1, cRm2, cRm3⟩ := cells23 Rm.out; obtain ⟨cRt0, cRt1, cRt2, cRt3⟩ := cells23 Rt.out))
            (try simp only [Act.put, List.setIfInBounds_toArray, List.set_cons_zero, List.set_cons_succ])
            clear cRs0 cRs1 cRs2 cRs3 cRm0 cRm1 cRm2 cRm3 cRt0 cRt1 cRt2 cRt3
            clear HRX HLX
            have hw1 : wrap64 ((i : Int) + 1) = (i : Int) + 1 := by have := HN2.out; unfold wrap64; omega
            have Rs' := Aside0.mk ((setRow_other w9 _ _ (#[.int .i64 f2, .int .i64 t2, .int .i64 c3, .bool d2]) (show gs ≠ gm from NE_Rs_Rm.out)).trans Rs.out)
            have Rt' := Aside0.mk ((setRow_other w9 _ _ (#[.int .i64 f2, .int .i64 t2, .int .i64 c3, .bool d2]) (show gt_7 ≠ gm from NE_Rt_Rm.out)).trans Rt.out)
            have Rm' := Aside0.mk (setRow_heap w9 _ _ (#[.int .i64 f2, .int .i64 t2, .int .i64 c3, .bool d2]) _ _ Rm.out)
            have HB' := Aside0.mk (below_setRow HB.out (GE_Rm.out) (#[.int .i64 f2, .int .i64 t2, .int .i64 c3, .bool d2]))
            go_wp2_with (first | (refine wpList_load_row rfl 34 _ rfl (gs) rfl 34 #[.int .i64 s0, .int .i64 s1, .int .i64 s2, .slice AS S.length cS] (0, 0) _ Rs.out Try.underlying34 rfl size34 ?_) | (refine wpList_load_row rfl 23 _ rfl (gm) rfl 23 #[.int .i64 f, .int .i64 t, .int .i64 c, .bool d] (0, 0) _ Rm.out Try.underlying23 rfl size23 ?_) | (refine wpList_load_row rfl 23 _ rfl (gt_7) rfl 23 #[.int .i64 f2, .int .i64 t2, .int .i64 c3, .bool d2] (0, 0) _ Rt.out Try.underlying23 rfl size23 ?_) | (refine wpList_store_row rfl 23 _ _ rfl (gm) #[.int .i64 f2, .int .i64 t2, .int .i64 c3, .bool d2] rfl rfl 23 #[.int .i64 f, .int .i64 t, .int .i64 c, .bool d] Rm.out size23 rfl (mixOne _ _ _ _) ?_))
            exact ⟨⟨i + 1, f2, t2, c3, d2, by omega, by first | (rw [hw1]; go_num) | go_num, HRS, Rs', Rm', HB'⟩, by (try rw [hw1]); show ((n2 : Int) - ((i : Int) + 1)).toNat < ((n2 : Int) - i).toNat; omega⟩
        | true =>
          obtain ⟨er, htp⟩ := turn_pure f t c d
          have HTP := Aside0.mk htp
          clear htp
          go_wp2_with (first | (refine wpList_load_row rfl 34 _ rfl (gs) rfl 34 #[.int .i64 s0, .int .i64 s1, .int .i64 s2, .slice AS S.length cS] (0, 0) _ Rs.out Try.underlying34 rfl size34 ?_) | (refine wpList_load_row rfl 23 _ rfl (gm) rfl 23 #[.int .i64 f, .int .i64 t, .int .i64 c, .bool d] (0, 0) _ Rm.out Try.underlying23 rfl size23 ?_))
          refine (Bknown.move_Turn.calls f t c d f t c (turnI f t d) er _ HTP.out).mono ?_
          rintro e w8 ⟨rfl, hb⟩
          have Rs' := Aside0.mk (row_below Rs.out hb)
          have Rm' := Aside0.mk (row_below Rm.out hb)
          have HB' := Aside0.mk (below_step HB.out hb)
          clear hb HB Rs Rm
          have HB := HB'
          have Rs := Rs'
          have Rm := Rm'
          clear HB' Rs' Rm'
          clear HTP
          have NEt : Aside0 (gs < w8.heap.size) := ⟨(Array.getElem?_eq_some_iff.1 Rs.out).1⟩
          have NEn : Aside0 (gm < w8.heap.size) := ⟨(Array.getElem?_eq_some_iff.1 Rm.out).1⟩
          have HRT := Aside0.mk (right_turn HRI.out)
          clear HRI
          have HRI := HRT
          clear HRT
          generalize turnI f t d = d1 at *
          have Rs' : Aside0 ((w8.alloc (.cells #[.int .i64 f, .int .i64 t, .int .i64 c, .bool d1] 23)).heap[gs]? = _) := ⟨row_alloc Rs.out _⟩
          have Rm' : Aside0 ((w8.alloc (.cells #[.int .i64 f, .int .i64 t, .int .i64 c, .bool d1] 23)).heap[gm]? = _) := ⟨row_alloc Rm.out _⟩
          have Ru' : Aside0 ((w8.alloc (.cells #[.int .i64 f, .int .i64 t, .int .i64 c, .bool d1] 23)).heap[w8.heap.size]? = _) := ⟨heap_alloc_new _ _⟩
          have HB' : Aside0 (Below w1.heap.size w1 (w8.alloc (.cells #[.int .i64 f, .int .i64 t, .int .i64 c, .bool d1] 23))) := ⟨below_alloc' HB.out _ (by have := HB.out.size; omega)⟩
          go_upto_region 10 with fail
          clear HB Rs Rm
          have HB := HB'
          have Rs := Rs'
          have Rm := Rm'
          have Ru := Ru'
          clear HB' Rs' Rm' Ru'
          generalize hg_ : w8.heap.size = gu_9 at *
          generalize (w8.alloc (.cells #[.int .i64 f, .int .i64 t, .int .i64 c, .bool d1] 23)) = w9 at *
          clear hg_ w8
          have NE_Rs_Ru : Aside0 (gs ≠ gu_9) := ⟨Nat.ne_of_lt NEt.out⟩
          have NE_Ru_Rm : Aside0 (gu_9 ≠ gm) := ⟨Nat.ne_of_gt NEn.out⟩
          clear NEt NEn
          go_upto_region 11 with (first | (refine wpList_load_row rfl 34 _ rfl (gs) rfl 34 #[.int .i64 s0, .int .i64 s1, .int .i64 s2, .slice AS S.length cS] (0, 0) _ Rs.out Try.underlying34 rfl size34 ?_) | (refine wpList_load_row rfl 23 _ rfl (gm) rfl 23 #[.int .i64 f, .int .i64 t, .int .i64 c, .bool d] (0, 0) _ Rm.out Try.underlying23 rfl size23 ?_) | (refine wpList_load_row rfl 23 _ rfl (gu_9) rfl 23 #[.int .i64 f, .int .i64 t, .int .i64 c, .bool d1] (0, 0) _ Ru.out Try.underlying23 rfl size23 ?_) | (refine wpList_store_row rfl 23 _ _ rfl (gm) #[.int .i64 f, .int .i64 t, .int .i64 c, .bool d1] rfl rfl 23 #[.int .i64 f, .int .i64 t, .int .i64 c, .bool d] Rm.out size23 rfl (mixOne _ _ _ _) ?_))
          have Rs' := Aside0.mk ((setRow_other _ _ _ (#[.int .i64 f, .int .i64 t, .int .i64 c, .bool d1]) (show gs ≠ gm from NE_Rs_Rm.out)).trans Rs.out)
          have Ru' := Aside0.mk ((setRow_other _ _ _ (#[.int .i64 f, .int .i64 t, .int .i64 c, .bool d1]) (show gu_9 ≠ gm from NE_Ru_Rm.out)).trans Ru.out)
          have Rm' := Aside0.mk (setRow_heap _ _ _ (#[.int .i64 f, .int .i64 t, .int .i64 c, .bool d1]) _ _ Rm.out)
          have HB' := Aside0.mk (below_setRow HB.out (GE_Rm.out) (#[.int .i64 f, .int .i64 t, .int .i64 c, .bool d1]))
          clear HB Rs Rm Ru
          have HB := HB'
          have Rs := Rs'
          have Rm := Rm'
          have Ru := Ru'
          clear HB' Rs' Rm' Ru'
          generalize World.setRow w9 (gm) (#[.int .i64 f, .int .i64 t, .int .i64 c, .bool d1]) = w10 at *
          clear Ru NE_Rs_Ru NE_Ru_Rm
          have HLL := Aside0.mk (left_pure HF.out (by omega) 100 f t c d1 s0 s1 s2 (by have := left_le HF.out f t c d1; omega))
          go_wp2_with (first | (refine wpList_load_row rfl 34 _ rfl (gs) rfl 34 #[.int .i64 s0, .int .i64 s1, .int .i64 s2, .slice AS S.length cS] (0, 0) _ Rs.out Try.underlying34 rfl size34 ?_) | (refine wpList_load_row rfl 23 _ rfl (gm) rfl 23 #[.int .i64 f, .int .i64 t, .int .i64 c, .bool d1] (0, 0) _ Rm.out Try.underlying23 rfl size23 ?_))
          refine (BLeft.move_Left.calls 100 f t c d1 s0 s1 s2 AS cS S _ _ (Kd.C_below HCS.out HB.out) HcS.out HLL.out).mono ?_
          rintro e w11 ⟨rfl, hb⟩
          have Rs' := Aside0.mk (row_below Rs.out hb)
          have Rm' := Aside0.mk (row_below Rm.out hb)
          have HB' := Aside0.mk (below_step HB.out hb)
          clear hb HB Rs Rm
          have HB := HB'
          have Rs := Rs'
          have Rm := Rm'
          clear HB' Rs' Rm'
          clear HLL
          have HRS := Aside0.mk (right_step HF.out HRI.out)
          have HOK := Aside0.mk (step_ok HF.out f t c d1)
          have HLS := Aside0.mk (left_step HF.out f t c d1)
          have HLN := Aside0.mk (left_len f t c d1 S)
          obtain ⟨f2, t2, c3, d2, o2, hs2⟩ : ∃ f2 t2 c3 d2 o2, stepI f t c d1 S = (f2, t2, c3, d2, o2) := ⟨_, _, _, _, _, rfl⟩
          have HS2 := Aside0.mk hs2
          clear hs2
          rw [HS2.out] at HRS HOK HLS
          obtain ⟨L, hL⟩ : ∃ L, left f t c d1 S = L := ⟨_, rfl⟩
          rw [hL] at HLS HLN ⊢
          clear hL
          go_wp2_with (first | (refine wpList_load_row rfl 34 _ rfl (gs) rfl 34 #[.int .i64 s0, .int .i64 s1, .int .i64 s2, .slice AS S.length cS] (0, 0) _ Rs.out Try.underlying34 rfl size34 ?_) | (refine wpList_load_row rfl 23 _ rfl (gm) rfl 23 #[.int .i64 f, .int .i64 t, .int .i64 c, .bool d1] (0, 0) _ Rm.out Try.underlying23 rfl size23 ?_))
          refine (step.walk f t c d1 s0 s1 s2 AS cS S _ (Kd.C_below HCS.out HB.out) HcS.out (by omega)).mono ?_
          rintro e w12 ⟨rfl, hb⟩
          rw [HS2.out]
          have Rs' := Aside0.mk (row_below Rs.out hb)
          have Rm' := Aside0.mk (row_below Rm.out hb)
          have HB' := Aside0.mk (below_step HB.out hb)
          clear hb HB Rs Rm
          have HB := HB'
          have Rs := Rs'
          have Rm := Rm'
          clear HB' Rs' Rm'
          clear HS2
          have NEt : Aside0 (gs < w12.heap.size) := ⟨(Array.getElem?_eq_some_iff.1 Rs.out).1⟩
          have NEn : Aside0 (gm < w12.heap.size) := ⟨(Array.getElem?_eq_some_iff.1 Rm.out).1⟩
          have Rs' : Aside0 ((w12.alloc (.cells #[.int .i64 f2, .int .i64 t2, .int .i64 c3, .bool d2] 23)).heap[gs]? = _) := ⟨row_alloc Rs.out _⟩
          have Rm' : Aside0 ((w12.alloc (.cells #[.int .i64 f2, .int .i64 t2, .int .i64 c3, .bool d2] 23)).heap[gm]? = _) := ⟨row_alloc Rm.out _⟩
          have Rt' : Aside0 ((w12.alloc (.cells #[.int .i64 f2, .int .i64 t2, .int .i64 c3, .bool d2] 23)).heap[w12.heap.size]? = _) := ⟨heap_alloc_new _ _⟩
          have HB' : Aside0 (Below w1.heap.size w1 (w12.alloc (.cells #[.int .i64 f2, .int .i64 t2, .int .i64 c3, .bool d2] 23))) := ⟨below_alloc' HB.out _ (by have := HB.out.size; omega)⟩
          go_upto_region 13 with fail
          clear HB Rs Rm
          have HB := HB'
          have Rs := Rs'
          have Rm := Rm'
          have Rt := Rt'
          clear HB' Rs' Rm' Rt'
          generalize hg_ : w12.heap.size = gt_13 at *
          generalize (w12.alloc (.cells #[.int .i64 f2, .int .i64 t2, .int .i64 c3, .bool d2] 23)) = w13 at *
          clear hg_ w12
          have HLX := Aside0.mk (left_pure HF.out (by omega) 100 f2 t2 c3 d2 s0 s1 s2 (by have := left_le HF.out f2 t2 c3 d2; omega))
          have HRX := Aside0.mk (right_pure HRS.out)
          have hLN := HLN.out
          have hgn : decide (((S.length : Int) + 1) < (L : Int)) = false := decide_eq_false (by omega)
          have hsum : wrap64 ((S.length : Int) + 1) = (S.length : Int) + 1 := by unfold wrap64; omega
          by_cases hft : f = t
          · obtain rfl : o2 = false := by rw [HOK.out]; simp [hft]
            have hne : (f != t) = false := by simp [hft]
            have hne2 : (f == t) = true := by simp [hft]
            clear HOK
            clear HLS
            clear HLX
            have NE_Rs_Rt : Aside0 (gs ≠ gt_13) := ⟨Nat.ne_of_lt NEt.out⟩
            have NE_Rt_Rm : Aside0 (gt_13 ≠ gm) := ⟨Nat.ne_of_gt NEn.out⟩
            obtain ⟨cRs0, cRs1, cRs2, cRs3⟩ := cells34 Rs.out
            obtain ⟨cRm0, cRm1, cRm2, cRm3⟩ := cells23 Rm.out
            obtain ⟨cRt0, cRt1, cRt2, cRt3⟩ := cells23 Rt.out
            go_upto_region 15 with (first | ((with_reducible refine gate_callee (f := 16) rfl ?_); refine gate_guard rfl ?_; refine goesL_ (some 72) rfl rfl Try.func16 (by kernel_rfl) rfl #[.agg #[.int .i64 f2, .int .i64 t2, .int .i64 c3, .bool d2]] rfl (by (try simp only [List.map_toArray, List.map_cons, List.map_nil]); first | done | rfl) ?_; refine (BRight.roadsteadref15_Right.calls 1 f2 t2 c3 d2 true _ HRX.out).mono ?_; rintro e w9 ⟨rfl, hb⟩; refine ⟨_, rfl, ?_⟩; have Rs' := Aside0.mk (row_below Rs.out hb); have Rm' := Aside0.mk (row_below Rm.out hb); have Rt' := Aside0.mk (row_below Rt.out hb); have HB' := Aside0.mk (below_step HB.out hb); clear hb HB Rs Rm Rt cRs0 cRs1 cRs2 cRs3 cRm0 cRm1 cRm2 cRm3 cRt0 cRt1 cRt2 cRt3; have HB := HB'; have Rs := Rs'; have Rm := Rm'; have Rt := Rt'; clear HB' Rs' Rm' Rt'; obtain ⟨cRs0, cRs1, cRs2, cRs3⟩ := cells34 Rs.out; obtain ⟨cRm0, cRm1, cRm2, cRm3⟩ := cells23 Rm.out; obtain ⟨cRt0, cRt1, cRt2, cRt3⟩ := cells23 Rt.out))
            (try simp only [Act.put, List.setIfInBounds_toArray, List.set_cons_zero, List.set_cons_succ])
            clear cRs0 cRs1 cRs2 cRs3 cRm0 cRm1 cRm2 cRm3 cRt0 cRt1 cRt2 cRt3
            clear HRX
            have hw1 : wrap64 ((i : Int) + 1) = (i : Int) + 1 := by have := HN2.out; unfold wrap64; omega
            have Rs' := Aside0.mk ((setRow_other w9 _ _ (#[.int .i64 f2, .int .i64 t2, .int .i64 c3, .bool d2]) (show gs ≠ gm from NE_Rs_Rm.out)).trans Rs.out)
            have Rt' := Aside0.mk ((setRow_other w9 _ _ (#[.int .i64 f2, .int .i64 t2, .int .i64 c3, .bool d2]) (show gt_13 ≠ gm from NE_Rt_Rm.out)).trans Rt.out)
            have Rm' := Aside0.mk (setRow_heap w9 _ _ (#[.int .i64 f2, .int .i64 t2, .int .i64 c3, .bool d2]) _ _ Rm.out)
            have HB' := Aside0.mk (below_setRow HB.out (GE_Rm.out) (#[.int .i64 f2, .int .i64 t2, .int .i64 c3, .bool d2]))
            go_wp2_with (first | (refine wpList_load_row rfl 34 _ rfl (gs) rfl 34 #[.int .i64 s0, .int .i64 s1, .int .i64 s2, .slice AS S.length cS] (0, 0) _ Rs.out Try.underlying34 rfl size34 ?_) | (refine wpList_load_row rfl 23 _ rfl (gm) rfl 23 #[.int .i64 f, .int .i64 t, .int .i64 c, .bool d1] (0, 0) _ Rm.out Try.underlying23 rfl size23 ?_) | (refine wpList_load_row rfl 23 _ rfl (gt_13) rfl 23 #[.int .i64 f2, .int .i64 t2, .int .i64 c3, .bool d2] (0, 0) _ Rt.out Try.underlying23 rfl size23 ?_) | (refine wpList_store_row rfl 23 _ _ rfl (gm) #[.int .i64 f2, .int .i64 t2, .int .i64 c3, .bool d2] rfl rfl 23 #[.int .i64 f, .int .i64 t, .int .i64 c, .bool d1] Rm.out size23 rfl (mixOne _ _ _ _) ?_))
            exact ⟨⟨i + 1, f2, t2, c3, d2, by omega, by first | (rw [hw1]; go_num) | go_num, HRS, Rs', Rm', HB'⟩, by (try rw [hw1]); show ((n2 : Int) - ((i : Int) + 1)).toNat < ((n2 : Int) - i).toNat; omega⟩
          · obtain rfl : o2 = true := by rw [HOK.out]; simp [hft]
            have hne : (f != t) = true := by simp [hft]
            have hne2 : (f == t) = false := by simp [hft]
            clear HOK
            have hls := HLS.out hft
            obtain ⟨L2, hL2⟩ : ∃ L2, left f2 t2 c3 d2 S = L2 := ⟨_, rfl⟩
            rw [hL2] at hls
            rw [hL2] at HLX
            clear hL2
            have hsub : wrap64 ((L : Int) - 1) = (L2 : Int) := by unfold wrap64; omega
            clear HLS
            have NE_Rs_Rt : Aside0 (gs ≠ gt_13) := ⟨Nat.ne_of_lt NEt.out⟩
            have NE_Rt_Rm : Aside0 (gt_13 ≠ gm) := ⟨Nat.ne_of_gt NEn.out⟩
            obtain ⟨cRs0, cRs1, cRs2, cRs3⟩ := cells34 Rs.out
            obtain ⟨cRm0, cRm1, cRm2, cRm3⟩ := cells23 Rm.out
            obtain ⟨cRt0, cRt1, cRt2, cRt3⟩ := cells23 Rt.out
            go_upto_region 15 with (first | ((with_reducible refine gate_callee (f := 14) rfl ?_); refine gate_guard rfl ?_; refine goesL_ (some 64) rfl rfl Try.func14 (by kernel_rfl) rfl #[.agg #[.int .i64 f2, .int .i64 t2, .int .i64 c3, .bool d2], .agg #[.int .i64 s0, .int .i64 s1, .int .i64 s2, .slice AS S.length cS]] rfl (by (try simp only [List.map_toArray, List.map_cons, List.map_nil]); first | done | rfl) ?_; refine (BLeft.move_Left.calls 100 f2 t2 c3 d2 s0 s1 s2 AS cS S _ _ (Kd.C_below HCS.out HB.out) HcS.out HLX.out).mono ?_; rintro e w9 ⟨rfl, hb⟩; refine ⟨_, rfl, ?_⟩; have Rs' := Aside0.mk (row_below Rs.out hb); have Rm' := Aside0.mk (row_below Rm.out hb); have Rt' := Aside0.mk (row_below Rt.out hb); have HB' := Aside0.mk (below_step HB.out hb); clear hb HB Rs Rm Rt cRs0 cRs1 cRs2 cRs3 cRm0 cRm1 cRm2 cRm3 cRt0 cRt1 cRt2 cRt3; have HB := HB'; have Rs := Rs'; have Rm := Rm'; have Rt := Rt'; clear HB' Rs' Rm' Rt'; obtain ⟨cRs0, cRs1, cRs2, cRs3⟩ := cells34 Rs.out; obtain ⟨cRm0, cRm1, cRm2, cRm3⟩ := cells23 Rm.out; obtain ⟨cRt0, cRt1, cRt2, cRt3⟩ := cells23 Rt.out) | ((with_reducible refine gate_callee (f := 16) rfl ?_); refine gate_guard rfl ?_; refine goesL_ (some 72) rfl rfl Try.func16 (by kernel_rfl) rfl #[.agg #[.int .i64 f2, .int .i64 t2, .int .i64 c3, .bool d2]] rfl (by (try simp only [List.map_toArray, List.map_cons, List.map_nil]); first | done | rfl) ?_; refine (BRight.roadsteadref15_Right.calls 1 f2 t2 c3 d2 true _ HRX.out).mono ?_; rintro e w9 ⟨rfl, hb⟩; refine ⟨_, rfl, ?_⟩; have Rs' := Aside0.mk (row_below Rs.out hb); have Rm' := Aside0.mk (row_below Rm.out hb); have Rt' := Aside0.mk (row_below Rt.out hb); have HB' := Aside0.mk (below_step HB.out hb); clear hb HB Rs Rm Rt cRs0 cRs1 cRs2 cRs3 cRm0 cRm1 cRm2 cRm3 cRt0 cRt1 cRt2 cRt3; have HB := HB'; have Rs := Rs'; have Rm := Rm'; have Rt := Rt'; clear HB' Rs' Rm' Rt'; obtain ⟨cRs0, cRs1, cRs2, cRs3⟩ := cells34 Rs.out; obtain ⟨cRm0, cRm1, cRm2, cRm3⟩ := cells23 Rm.out; obtain ⟨cRt0, cRt1, cRt2, cRt3⟩ := cells23 Rt.out))
            (try simp only [Act.put, List.setIfInBounds_toArray, List.set_cons_zero, List.set_cons_succ])
            clear cRs0 cRs1 cRs2 cRs3 cRm0 cRm1 cRm2 cRm3 cRt0 cRt1 cRt2 cRt3
            clear HRX HLX
            have hw1 : wrap64 ((i : Int) + 1) = (i : Int) + 1 := by have := HN2.out; unfold wrap64; omega
            have Rs' := Aside0.mk ((setRow_other w9 _ _ (#[.int .i64 f2, .int .i64 t2, .int .i64 c3, .bool d2]) (show gs ≠ gm from NE_Rs_Rm.out)).trans Rs.out)
            have Rt' := Aside0.mk ((setRow_other w9 _ _ (#[.int .i64 f2, .int .i64 t2, .int .i64 c3, .bool d2]) (show gt_13 ≠ gm from NE_Rt_Rm.out)).trans Rt.out)
            have Rm' := Aside0.mk (setRow_heap w9 _ _ (#[.int .i64 f2, .int .i64 t2, .int .i64 c3, .bool d2]) _ _ Rm.out)
            have HB' := Aside0.mk (below_setRow HB.out (GE_Rm.out) (#[.int .i64 f2, .int .i64 t2, .int .i64 c3, .bool d2]))
            go_wp2_with (first | (refine wpList_load_row rfl 34 _ rfl (gs) rfl 34 #[.int .i64 s0, .int .i64 s1, .int .i64 s2, .slice AS S.length cS] (0, 0) _ Rs.out Try.underlying34 rfl size34 ?_) | (refine wpList_load_row rfl 23 _ rfl (gm) rfl 23 #[.int .i64 f, .int .i64 t, .int .i64 c, .bool d1] (0, 0) _ Rm.out Try.underlying23 rfl size23 ?_) | (refine wpList_load_row rfl 23 _ rfl (gt_13) rfl 23 #[.int .i64 f2, .int .i64 t2, .int .i64 c3, .bool d2] (0, 0) _ Rt.out Try.underlying23 rfl size23 ?_) | (refine wpList_store_row rfl 23 _ _ rfl (gm) #[.int .i64 f2, .int .i64 t2, .int .i64 c3, .bool d2] rfl rfl 23 #[.int .i64 f, .int .i64 t, .int .i64 c, .bool d1] Rm.out size23 rfl (mixOne _ _ _ _) ?_))
            exact ⟨⟨i + 1, f2, t2, c3, d2, by omega, by first | (rw [hw1]; go_num) | go_num, HRS, Rs', Rm', HB'⟩, by (try rw [hw1]); show ((n2 : Int) - ((i : Int) + 1)).toNat < ((n2 : Int) - i).toNat; omega⟩
      · have hdl : decide ((i : Int) < (n2 : Int)) = false := decide_eq_false (by omega)
        clear HTT
        cases d with
        | false =>
          have HTO : Aside0 (toI f t false = t) := ⟨by unfold toI; simp⟩
          have HLL := Aside0.mk (left_pure HF.out (by omega) 100 f t c false s0 s1 s2 (by have := left_le HF.out f t c false; omega))
          obtain ⟨cRm0, cRm1, cRm2, cRm3⟩ := cells23 Rm.out
          go_upto_region 19 with fail
          go_wp2_with (first | (refine wpList_load_row rfl 34 _ rfl (gs) rfl 34 #[.int .i64 s0, .int .i64 s1, .int .i64 s2, .slice AS S.length cS] (0, 0) _ Rs.out Try.underlying34 rfl size34 ?_) | (refine wpList_load_row rfl 23 _ rfl (gm) rfl 23 #[.int .i64 f, .int .i64 t, .int .i64 c, .bool false] (0, 0) _ Rm.out Try.underlying23 rfl size23 ?_))
          clear cRm0 cRm1 cRm2 cRm3
          refine (BLeft.move_Left.calls 100 f t c false s0 s1 s2 AS cS S _ _ (Kd.C_below HCS.out HB.out) HcS.out HLL.out).mono ?_
          rintro e w14 ⟨rfl, hb⟩
          have Rs' := Aside0.mk (row_below Rs.out hb)
          have Rm' := Aside0.mk (row_below Rm.out hb)
          have HB' := Aside0.mk (below_step HB.out hb)
          clear hb HB Rs Rm
          have HB := HB'
          have Rs := Rs'
          have Rm := Rm'
          clear HB' Rs' Rm'
          clear HLL
          obtain ⟨L0, hL0⟩ : ∃ L0, left f t c false S = L0 := ⟨_, rfl⟩
          rw [hL0]
          have HL0 := Aside0.mk hL0
          clear hL0
          go_wp2_with fail
          go_loopw [16] (fun v16 wr => ∃ (f' t' c' : Int) (d' : Bool), v16 = .int .i64 (left f' t' c' d' S : Nat) ∧ Aside0 (RightI f' t' c' d') ∧ Aside0 (toI f' t' d' = t) ∧ Aside0 (wr.heap[gs]? = some (.cells #[.int .i64 s0, .int .i64 s1, .int .i64 s2, .slice AS S.length cS] 34 (0, 0))) ∧ Aside0 (wr.heap[gm]? = some (.cells #[.int .i64 f', .int .i64 t', .int .i64 c', .bool d'] 23 (0, 0))) ∧ Aside0 (Below w1.heap.size w1 wr)) (fun v16 _ => (intOf v16).toNat)
          case atStart => exact ⟨f, t, c, false, by rw [HL0.out], HRI, HTO, Rs, Rm, HB⟩
          case round =>
            clear HRI HTO Rs Rm HB
            obtain ⟨f', t', c', d', rfl, HRI, HTO, Rs, Rm, HB⟩ := hrel
            by_cases hft : f' = t'
            · have hl0 : left f' t' c' d' S = 0 := by unfold left; rw [if_pos hft]
              rw [hl0]
              obtain ⟨hc0, hd0⟩ := HRI.out.2.2.1 hft
              subst hc0 hd0 hft
              obtain rfl : f' = t := by have := HTO.out; unfold toI at this; simpa using this
              go_wp2_with fail
              refine (known.walk _).mono ?_
              rintro e w15 ⟨rfl, hb⟩
              have Rs' := Aside0.mk (row_below Rs.out hb)
              have Rm' := Aside0.mk (row_below Rm.out hb)
              have HB' := Aside0.mk (below_step HB.out hb)
              clear hb HB Rs Rm
              have HB := HB'
              have Rs := Rs'
              have Rm := Rm'
              clear HB' Rs' Rm'
              obtain ⟨cRm0, cRm1, cRm2, cRm3⟩ := cells23 Rm.out
              go_wp2
              go_ret
              exact ⟨by first | rfl | simp, below_step HB1.out HB.out⟩
            · have HLS := Aside0.mk (left_step HF.out f' t' c' d' hft)
              have HRS := Aside0.mk (right_step HF.out HRI.out)
              have HTS := Aside0.mk ((to_step HF.out (c := c') (b := d') hft).trans HTO.out)
              have HLN := Aside0.mk (left_len f' t' c' d' S)
              obtain ⟨f2, t2, c3, d2, o2, hs2⟩ : ∃ f2 t2 c3 d2 o2, stepI f' t' c' d' S = (f2, t2, c3, d2, o2) := ⟨_, _, _, _, _, rfl⟩
              have HS2 := Aside0.mk hs2
              clear hs2
              rw [HS2.out] at HRS HTS HLS
              obtain ⟨L, hL⟩ : ∃ L, left f' t' c' d' S = L := ⟨_, rfl⟩
              rw [hL] at HLS HLN ⊢
              clear hL HTO HRI
              have hls := HLS.out
              have hln := HLN.out
              have hdL : decide ((0 : Int) < (L : Int)) = true := decide_eq_true (by omega)
              go_wp2_with (first | (refine wpList_load_row rfl 34 _ rfl (gs) rfl 34 #[.int .i64 s0, .int .i64 s1, .int .i64 s2, .slice AS S.length cS] (0, 0) _ Rs.out Try.underlying34 rfl size34 ?_) | (refine wpList_load_row rfl 23 _ rfl (gm) rfl 23 #[.int .i64 f', .int .i64 t', .int .i64 c', .bool d'] (0, 0) _ Rm.out Try.underlying23 rfl size23 ?_))
              refine (step.walk f' t' c' d' s0 s1 s2 AS cS S _ (Kd.C_below HCS.out HB.out) HcS.out (by omega)).mono ?_
              rintro e w16 ⟨rfl, hb⟩
              rw [HS2.out]
              have Rs' := Aside0.mk (row_below Rs.out hb)
              have Rm' := Aside0.mk (row_below Rm.out hb)
              have HB' := Aside0.mk (below_step HB.out hb)
              clear hb HB Rs Rm
              have HB := HB'
              have Rs := Rs'
              have Rm := Rm'
              clear HB' Rs' Rm'
              clear HS2
              have NEt : Aside0 (gs < w16.heap.size) := ⟨(Array.getElem?_eq_some_iff.1 Rs.out).1⟩
              have NEn : Aside0 (gm < w16.heap.size) := ⟨(Array.getElem?_eq_some_iff.1 Rm.out).1⟩
              have Rs' : Aside0 ((w16.alloc (.cells #[.int .i64 f2, .int .i64 t2, .int .i64 c3, .bool d2] 23)).heap[gs]? = _) := ⟨row_alloc Rs.out _⟩
              have Rm' : Aside0 ((w16.alloc (.cells #[.int .i64 f2, .int .i64 t2, .int .i64 c3, .bool d2] 23)).heap[gm]? = _) := ⟨row_alloc Rm.out _⟩
              have Rt' : Aside0 ((w16.alloc (.cells #[.int .i64 f2, .int .i64 t2, .int .i64 c3, .bool d2] 23)).heap[w16.heap.size]? = _) := ⟨heap_alloc_new _ _⟩
              have HB' : Aside0 (Below w1.heap.size w1 (w16.alloc (.cells #[.int .i64 f2, .int .i64 t2, .int .i64 c3, .bool d2] 23))) := ⟨below_alloc' HB.out _ (by have := HB.out.size; omega)⟩
              go_upto_region 23 with fail
              clear HB Rs Rm
              have HB := HB'
              have Rs := Rs'
              have Rm := Rm'
              have Rt := Rt'
              clear HB' Rs' Rm' Rt'
              generalize hg_ : w16.heap.size = gt_17 at *
              generalize (w16.alloc (.cells #[.int .i64 f2, .int .i64 t2, .int .i64 c3, .bool d2] 23)) = w17 at *
              clear hg_ w16
              have NE_Rs_Rt : Aside0 (gs ≠ gt_17) := ⟨Nat.ne_of_lt NEt.out⟩
              have NE_Rt_Rm : Aside0 (gt_17 ≠ gm) := ⟨Nat.ne_of_gt NEn.out⟩
              have Rs' := Aside0.mk ((setRow_other w17 _ _ (#[.int .i64 f2, .int .i64 t2, .int .i64 c3, .bool d2]) (show gs ≠ gm from NE_Rs_Rm.out)).trans Rs.out)
              have Rt' := Aside0.mk ((setRow_other w17 _ _ (#[.int .i64 f2, .int .i64 t2, .int .i64 c3, .bool d2]) (show gt_17 ≠ gm from NE_Rt_Rm.out)).trans Rt.out)
              have Rm' := Aside0.mk (setRow_heap w17 _ _ (#[.int .i64 f2, .int .i64 t2, .int .i64 c3, .bool d2]) _ _ Rm.out)
              have HB' := Aside0.mk (below_setRow HB.out (GE_Rm.out) (#[.int .i64 f2, .int .i64 t2, .int .i64 c3, .bool d2]))
              go_wp2_with (first | (refine wpList_load_row rfl 34 _ rfl (gs) rfl 34 #[.int .i64 s0, .int .i64 s1, .int .i64 s2, .slice AS S.length cS] (0, 0) _ Rs.out Try.underlying34 rfl size34 ?_) | (refine wpList_load_row rfl 23 _ rfl (gm) rfl 23 #[.int .i64 f', .int .i64 t', .int .i64 c', .bool d'] (0, 0) _ Rm.out Try.underlying23 rfl size23 ?_) | (refine wpList_load_row rfl 23 _ rfl (gt_17) rfl 23 #[.int .i64 f2, .int .i64 t2, .int .i64 c3, .bool d2] (0, 0) _ Rt.out Try.underlying23 rfl size23 ?_) | (refine wpList_store_row rfl 23 _ _ rfl (gm) #[.int .i64 f2, .int .i64 t2, .int .i64 c3, .bool d2] rfl rfl 23 #[.int .i64 f', .int .i64 t', .int .i64 c', .bool d'] Rm.out size23 rfl (mixOne _ _ _ _) ?_))
              exact ⟨⟨f2, t2, c3, d2, by rw [show (L : Int) - 1 = (left f2 t2 c3 d2 S : Nat) by omega], HRS, HTS, Rs', Rm', HB'⟩, by show ((L : Int) - 1).toNat < ((L : Nat) : Int).toNat; omega⟩
        | true =>
          have HTO : Aside0 (toI f t true = f) := ⟨by unfold toI; simp⟩
          have HLL := Aside0.mk (left_pure HF.out (by omega) 100 f t c true s0 s1 s2 (by have := left_le HF.out f t c true; omega))
          obtain ⟨cRm0, cRm1, cRm2, cRm3⟩ := cells23 Rm.out
          go_upto_region 19 with fail
          go_wp2_with (first | (refine wpList_load_row rfl 34 _ rfl (gs) rfl 34 #[.int .i64 s0, .int .i64 s1, .int .i64 s2, .slice AS S.length cS] (0, 0) _ Rs.out Try.underlying34 rfl size34 ?_) | (refine wpList_load_row rfl 23 _ rfl (gm) rfl 23 #[.int .i64 f, .int .i64 t, .int .i64 c, .bool true] (0, 0) _ Rm.out Try.underlying23 rfl size23 ?_))
          clear cRm0 cRm1 cRm2 cRm3
          refine (BLeft.move_Left.calls 100 f t c true s0 s1 s2 AS cS S _ _ (Kd.C_below HCS.out HB.out) HcS.out HLL.out).mono ?_
          rintro e w18 ⟨rfl, hb⟩
          have Rs' := Aside0.mk (row_below Rs.out hb)
          have Rm' := Aside0.mk (row_below Rm.out hb)
          have HB' := Aside0.mk (below_step HB.out hb)
          clear hb HB Rs Rm
          have HB := HB'
          have Rs := Rs'
          have Rm := Rm'
          clear HB' Rs' Rm'
          clear HLL
          obtain ⟨L0, hL0⟩ : ∃ L0, left f t c true S = L0 := ⟨_, rfl⟩
          rw [hL0]
          have HL0 := Aside0.mk hL0
          clear hL0
          go_wp2_with fail
          go_loopw [16] (fun v16 wr => ∃ (f' t' c' : Int) (d' : Bool), v16 = .int .i64 (left f' t' c' d' S : Nat) ∧ Aside0 (RightI f' t' c' d') ∧ Aside0 (toI f' t' d' = f) ∧ Aside0 (wr.heap[gs]? = some (.cells #[.int .i64 s0, .int .i64 s1, .int .i64 s2, .slice AS S.length cS] 34 (0, 0))) ∧ Aside0 (wr.heap[gm]? = some (.cells #[.int .i64 f', .int .i64 t', .int .i64 c', .bool d'] 23 (0, 0))) ∧ Aside0 (Below w1.heap.size w1 wr)) (fun v16 _ => (intOf v16).toNat)
          case atStart => exact ⟨f, t, c, true, by rw [HL0.out], HRI, HTO, Rs, Rm, HB⟩
          case round =>
            clear HRI HTO Rs Rm HB
            obtain ⟨f', t', c', d', rfl, HRI, HTO, Rs, Rm, HB⟩ := hrel
            by_cases hft : f' = t'
            · have hl0 : left f' t' c' d' S = 0 := by unfold left; rw [if_pos hft]
              rw [hl0]
              obtain ⟨hc0, hd0⟩ := HRI.out.2.2.1 hft
              subst hc0 hd0 hft
              obtain rfl : f' = f := by have := HTO.out; unfold toI at this; simpa using this
              go_wp2_with fail
              refine (known.walk _).mono ?_
              rintro e w19 ⟨rfl, hb⟩
              have Rs' := Aside0.mk (row_below Rs.out hb)
              have Rm' := Aside0.mk (row_below Rm.out hb)
              have HB' := Aside0.mk (below_step HB.out hb)
              clear hb HB Rs Rm
              have HB := HB'
              have Rs := Rs'
              have Rm := Rm'
              clear HB' Rs' Rm'
              obtain ⟨cRm0, cRm1, cRm2, cRm3⟩ := cells23 Rm.out
              go_wp2
              go_ret
              exact ⟨by first | rfl | simp, below_step HB1.out HB.out⟩
            · have HLS := Aside0.mk (left_step HF.out f' t' c' d' hft)
              have HRS := Aside0.mk (right_step HF.out HRI.out)
              have HTS := Aside0.mk ((to_step HF.out (c := c') (b := d') hft).trans HTO.out)
              have HLN := Aside0.mk (left_len f' t' c' d' S)
              obtain ⟨f2, t2, c3, d2, o2, hs2⟩ : ∃ f2 t2 c3 d2 o2, stepI f' t' c' d' S = (f2, t2, c3, d2, o2) := ⟨_, _, _, _, _, rfl⟩
              have HS2 := Aside0.mk hs2
              clear hs2
              rw [HS2.out] at HRS HTS HLS
              obtain ⟨L, hL⟩ : ∃ L, left f' t' c' d' S = L := ⟨_, rfl⟩
              rw [hL] at HLS HLN ⊢
              clear hL HTO HRI
              have hls := HLS.out
              have hln := HLN.out
              have hdL : decide ((0 : Int) < (L : Int)) = true := decide_eq_true (by omega)
              go_wp2_with (first | (refine wpList_load_row rfl 34 _ rfl (gs) rfl 34 #[.int .i64 s0, .int .i64 s1, .int .i64 s2, .slice AS S.length cS] (0, 0) _ Rs.out Try.underlying34 rfl size34 ?_) | (refine wpList_load_row rfl 23 _ rfl (gm) rfl 23 #[.int .i64 f', .int .i64 t', .int .i64 c', .bool d'] (0, 0) _ Rm.out Try.underlying23 rfl size23 ?_))
              refine (step.walk f' t' c' d' s0 s1 s2 AS cS S _ (Kd.C_below HCS.out HB.out) HcS.out (by omega)).mono ?_
              rintro e w20 ⟨rfl, hb⟩
              rw [HS2.out]
              have Rs' := Aside0.mk (row_below Rs.out hb)
              have Rm' := Aside0.mk (row_below Rm.out hb)
              have HB' := Aside0.mk (below_step HB.out hb)
              clear hb HB Rs Rm
              have HB := HB'
              have Rs := Rs'
              have Rm := Rm'
              clear HB' Rs' Rm'
              clear HS2
              have NEt : Aside0 (gs < w20.heap.size) := ⟨(Array.getElem?_eq_some_iff.1 Rs.out).1⟩
              have NEn : Aside0 (gm < w20.heap.size) := ⟨(Array.getElem?_eq_some_iff.1 Rm.out).1⟩
              have Rs' : Aside0 ((w20.alloc (.cells #[.int .i64 f2, .int .i64 t2, .int .i64 c3, .bool d2] 23)).heap[gs]? = _) := ⟨row_alloc Rs.out _⟩
              have Rm' : Aside0 ((w20.alloc (.cells #[.int .i64 f2, .int .i64 t2, .int .i64 c3, .bool d2] 23)).heap[gm]? = _) := ⟨row_alloc Rm.out _⟩
              have Rt' : Aside0 ((w20.alloc (.cells #[.int .i64 f2, .int .i64 t2, .int .i64 c3, .bool d2] 23)).heap[w20.heap.size]? = _) := ⟨heap_alloc_new _ _⟩
              have HB' : Aside0 (Below w1.heap.size w1 (w20.alloc (.cells #[.int .i64 f2, .int .i64 t2, .int .i64 c3, .bool d2] 23))) := ⟨below_alloc' HB.out _ (by have := HB.out.size; omega)⟩
              go_upto_region 23 with fail
              clear HB Rs Rm
              have HB := HB'
              have Rs := Rs'
              have Rm := Rm'
              have Rt := Rt'
              clear HB' Rs' Rm' Rt'
              generalize hg_ : w20.heap.size = gt_21 at *
              generalize (w20.alloc (.cells #[.int .i64 f2, .int .i64 t2, .int .i64 c3, .bool d2] 23)) = w21 at *
              clear hg_ w20
              have NE_Rs_Rt : Aside0 (gs ≠ gt_21) := ⟨Nat.ne_of_lt NEt.out⟩
              have NE_Rt_Rm : Aside0 (gt_21 ≠ gm) := ⟨Nat.ne_of_gt NEn.out⟩
              have Rs' := Aside0.mk ((setRow_other w21 _ _ (#[.int .i64 f2, .int .i64 t2, .int .i64 c3, .bool d2]) (show gs ≠ gm from NE_Rs_Rm.out)).trans Rs.out)
              have Rt' := Aside0.mk ((setRow_other w21 _ _ (#[.int .i64 f2, .int .i64 t2, .int .i64 c3, .bool d2]) (show gt_21 ≠ gm from NE_Rt_Rm.out)).trans Rt.out)
              have Rm' := Aside0.mk (setRow_heap w21 _ _ (#[.int .i64 f2, .int .i64 t2, .int .i64 c3, .bool d2]) _ _ Rm.out)
              have HB' := Aside0.mk (below_setRow HB.out (GE_Rm.out) (#[.int .i64 f2, .int .i64 t2, .int .i64 c3, .bool d2]))
              go_wp2_with (first | (refine wpList_load_row rfl 34 _ rfl (gs) rfl 34 #[.int .i64 s0, .int .i64 s1, .int .i64 s2, .slice AS S.length cS] (0, 0) _ Rs.out Try.underlying34 rfl size34 ?_) | (refine wpList_load_row rfl 23 _ rfl (gm) rfl 23 #[.int .i64 f', .int .i64 t', .int .i64 c', .bool d'] (0, 0) _ Rm.out Try.underlying23 rfl size23 ?_) | (refine wpList_load_row rfl 23 _ rfl (gt_21) rfl 23 #[.int .i64 f2, .int .i64 t2, .int .i64 c3, .bool d2] (0, 0) _ Rt.out Try.underlying23 rfl size23 ?_) | (refine wpList_store_row rfl 23 _ _ rfl (gm) #[.int .i64 f2, .int .i64 t2, .int .i64 c3, .bool d2] rfl rfl 23 #[.int .i64 f', .int .i64 t', .int .i64 c', .bool d'] Rm.out size23 rfl (mixOne _ _ _ _) ?_))
              exact ⟨⟨f2, t2, c3, d2, by rw [show (L : Int) - 1 = (left f2 t2 c3 d2 S : Nat) by omega], HRS, HTS, Rs', Rm', HB'⟩, by show ((L : Int) - 1).toNat < ((L : Nat) : Int).toNat; omega⟩
theorem bytes_of' {l : List Int} (h : ∀ n ∈ l, (Lit.int .u8 n).wf = true) : Bytes l := by
  intro i
  unfold rd
  rw [List.getD_eq_getElem?_getD]
  cases e : l[i.toNat]? with
  | none => simp
  | some v =>
    have := bounds_u8 (h v (List.mem_of_getElem? e))
    simp only [Option.getD_some]
    omega
theorem moveEnds.row (a0 : Option Addr) (len0 cap0 : Nat) (z0 : List Int) (a1 : Int) (a2 : Option Addr) (len2 cap2 : Nat) (w : World) (w0 : (a0 = none ∧ len0 = 0 ∧ cap0 = 0 ∧ z0 = []) ∨ ∃ x, a0 = some x ∧ len0 ≤ cap0 ∧ cap0 ≤ maxLen ∧ z0.length = cap0 ∧ (∀ i, i < z0.length → w.cell? (x.add i) = some (.int .u8 (z0.getD i 0))) ∧ ∀ n ∈ z0, (Lit.int .u8 n).wf = true) (w1 : (Lit.int .u8 a1).wf = true)
    (w2 : ∀ j, j < len2 → ∃ (x : Addr) (b : Bool), a2 = some x ∧ w.cell? (x.add j) = some (.bool b)) :
    Calls Try.prog 4 #[.slice a0 len0 cap0, .int .u8 a1, .slice a2 len2 cap2] w fun e w' => e = .returned (.bool true) ∧ Below w.heap.size w w' := by
  obtain ⟨l0, rfl, hr0, hm0, hw0, hc0⟩ := ReadsInt.ofRowC w0
  exact moveEnds.walk a0 cap0 l0 a1 a2 len2 cap2 w (Kd.C_of_reads (d := (0 : Int)) (h1 := fun _ => rfl) hr0) hc0 (bytes_of' hw0) (bounds_u8 w1) w2
end Go.Proofs.Ytajfefjmfelnbaa
