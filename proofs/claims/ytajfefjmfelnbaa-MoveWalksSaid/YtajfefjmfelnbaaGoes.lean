/- MoveWalks: the law's walk. -/
import Derived.Test.YtajfefjmfelnbaaWalksPure
import Derived.Test.YtajfefjmfelnbaaKnown
import Derived.Test.YtajfefjmfelnbaaStateUse
import Derived.Test.YtajfefjmfelnbaaOthers
import Derived.Test.YtajfefjmfelnbaaBRoutex1
namespace Go.Proofs.Ytajfefjmfelnbaa
open Go.RowKit Go.Proofs.YtajfefjmfelnbaaW.PrintWords Go.Proofs.YtajfefjmfelnbaaW.PrintLast Go.Proofs.YtajfefjmfelnbaaW.PrintMore BState Go.ChangeShapes Go.WideShapes
set_option linter.unusedVariables false
set_option linter.unusedSimpArgs false
theorem row_lift {w w' : World} {g : Nat} {o : Obj} (h : w.heap[g]? = some o) (hb : Below w.heap.size w w') : w'.heap[g]? = some o := (hb.block g (Array.getElem?_eq_some_iff.1 h).1).trans h
theorem route.walk (f t c : Int) (b : Bool) (id : Int) (w : World) : Calls Try.prog 18 #[.agg #[.int .i64 f, .int .i64 t, .int .i64 c, .bool b], .int .i64 id] w fun e w' => e = .returned (.int .i64 (routeI f t c id)) ∧ Below w.heap.size w w' := by
  refine BRoute.roadsteadref15_Route.calls f t c b id _ w ?_
  unfold BRoute.roadsteadref15_Route.f routeI
  by_cases h : id ≤ c
  · rw [if_pos h, if_pos h]
  · rw [if_neg h, if_neg h]
set_option maxRecDepth 100000 in
set_option maxHeartbeats 8000000 in
theorem moveWalks.walk (A : Option Addr) (cc : Nat) (l : List Int) (a b : Int) (w : World) (hC : Kd.C (Kd.int .u8) w A l.length l) (hc : l.length ≤ cc) (hb : Bytes l) (ha : 0 ≤ a ∧ a ≤ 255) (hb' : 0 ≤ b ∧ b ≤ 255) :
    Calls Try.prog 6 #[.slice A l.length cc, .int .u8 a, .int .u8 b] w fun e w' => e = .returned (.bool true) ∧ Below w.heap.size w w' := by
  obtain ⟨s0, s1, s2, S, hF, hst⟩ := state_use l hb
  have HF := Aside0.mk hF
  have HST := Aside0.mk hst
  have HC := Aside0.mk hC
  have HCC := Aside0.mk hc
  have HA := Aside0.mk ha
  have HB' := Aside0.mk hb'
  have hS6 : S.length ≤ 6 := hF.1
  clear hF hst hC hc ha hb' hb
  have hu34 := Try.underlying34
  have hu23 := Try.underlying23
  have hu46 := Try.underlying46
  go_enter Try.func6, Try.ntmps6
  go_wp2_with fail
  refine (HST.out A cc w HC.out HCC.out).mono ?_
  rintro e w1 ⟨AS, cS, rfl, hcS, hCS, hb⟩
  have HB1 := Aside0.mk hb
  have HCS := Aside0.mk hCS
  have HcS := Aside0.mk hcS
  clear hb hCS hcS
  go_wp2_with fail
  obtain ⟨v, hv0, hv1⟩ : ∃ g, wrap64 (1 + wrap64 (a.tmod 3)) = g ∧ 1 ≤ g ∧ g ≤ 3 := ⟨_, rfl, by have := HA.out; rw [Int.tmod_eq_emod_of_nonneg this.1]; unfold wrap64; omega⟩
  obtain ⟨u, hu0, hu1⟩ : ∃ g, wrap64 (1 + wrap64 (b.tmod 3)) = g ∧ 1 ≤ g ∧ g ≤ 3 := ⟨_, rfl, by have := HB'.out; rw [Int.tmod_eq_emod_of_nonneg this.1]; unfold wrap64; omega⟩
  rw [hv0]
  obtain ⟨k, hk, e1, e2⟩ := walks_law HF.out u v hu1 hv1
  have He1 := Aside0.mk e1
  have He2 := Aside0.mk e2
  clear e1 e2
  rw [hu0]
  have Rs : Aside0 (((w1.alloc (.cells #[.int .i64 s0, .int .i64 s1, .int .i64 s2, .slice AS S.length cS] 34)).alloc (.cells #[.int .i64 v, .int .i64 v, .int .i64 0, .bool false] 23)).heap[w1.heap.size]? = some (.cells #[.int .i64 s0, .int .i64 s1, .int .i64 s2, .slice AS S.length cS] 34 (0, 0))) := ⟨by
      rw [_root_.Go.heap_alloc_old _ _ (by rw [size_alloc]; omega)]; exact heap_alloc_new _ _⟩
  have Rm : Aside0 (((w1.alloc (.cells #[.int .i64 s0, .int .i64 s1, .int .i64 s2, .slice AS S.length cS] 34)).alloc (.cells #[.int .i64 v, .int .i64 v, .int .i64 0, .bool false] 23)).heap[w1.heap.size + 1]? = some (.cells #[.int .i64 v, .int .i64 v, .int .i64 0, .bool false] 23 (0, 0))) := ⟨by
      have h := heap_alloc_new (w1.alloc (.cells #[.int .i64 s0, .int .i64 s1, .int .i64 s2, .slice AS S.length cS] 34)) (.cells #[.int .i64 v, .int .i64 v, .int .i64 0, .bool false] 23)
      rwa [size_alloc] at h⟩
  have HB2 : Aside0 (Below w1.heap.size w1 ((w1.alloc (.cells #[.int .i64 s0, .int .i64 s1, .int .i64 s2, .slice AS S.length cS] 34)).alloc (.cells #[.int .i64 v, .int .i64 v, .int .i64 0, .bool false] 23))) := ⟨((Below.refl _ _).alloc (Nat.le_refl _) _).alloc (by rw [size_alloc]; omega) _⟩
  generalize ((w1.alloc (.cells #[.int .i64 s0, .int .i64 s1, .int .i64 s2, .slice AS S.length cS] 34)).alloc (.cells #[.int .i64 v, .int .i64 v, .int .i64 0, .bool false] 23)) = w2 at *
  have HK := Aside0.mk hk
  refine (walk.walk v v 0 false s0 s1 s2 AS cS S u 100 _ (Kd.C_below HCS.out HB2.out) HcS.out (by omega) (by have := HK.out; omega)).mono ?_
  rintro e w3 ⟨rfl, hb⟩
  rw [He1.out]
  have Rs := Aside0.mk ((hb.block _ (Array.getElem?_eq_some_iff.1 Rs.out).1).trans Rs.out)
  have Rm := Aside0.mk ((hb.block _ (Array.getElem?_eq_some_iff.1 Rm.out).1).trans Rm.out)
  have HB2 := Aside0.mk (below_step HB2.out hb)
  clear hb
  have Rs' : Aside0 ((w3.alloc (.cells #[.int .i64 u, .int .i64 u, .int .i64 0, .bool false] 23)).heap[w1.heap.size]? = _) := ⟨(_root_.Go.heap_alloc_old _ _ (Array.getElem?_eq_some_iff.1 Rs.out).1).trans Rs.out⟩
  have Rm' : Aside0 ((w3.alloc (.cells #[.int .i64 u, .int .i64 u, .int .i64 0, .bool false] 23)).heap[w1.heap.size + 1]? = _) := ⟨(_root_.Go.heap_alloc_old _ _ (Array.getElem?_eq_some_iff.1 Rm.out).1).trans Rm.out⟩
  have Rn' : Aside0 ((w3.alloc (.cells #[.int .i64 u, .int .i64 u, .int .i64 0, .bool false] 23)).heap[w3.heap.size]? = _) := ⟨heap_alloc_new _ _⟩
  have HB2' := Aside0.mk (below_step HB2.out ((Below.refl w3.heap.size w3).alloc (Nat.le_refl _) (.cells #[.int .i64 u, .int .i64 u, .int .i64 0, .bool false] 23)))
  have HB2_ := HB2'
  have cRs0 := cell_of_row _ _ _ _ _ 0 Rs'.out
  have cRs1 := cell_of_row _ _ _ _ _ 1 Rs'.out
  have cRs2 := cell_of_row _ _ _ _ _ 2 Rs'.out
  have cRs3 := cell_of_row _ _ _ _ _ 3 Rs'.out
  have cRm0 := cell_of_row _ _ _ _ _ 0 Rm'.out
  have cRm1 := cell_of_row _ _ _ _ _ 1 Rm'.out
  have cRm2 := cell_of_row _ _ _ _ _ 2 Rm'.out
  have cRm3 := cell_of_row _ _ _ _ _ 3 Rm'.out
  have cRn0 := cell_of_row _ _ _ _ _ 0 Rn'.out
  have cRn1 := cell_of_row _ _ _ _ _ 1 Rn'.out
  have cRn2 := cell_of_row _ _ _ _ _ 2 Rn'.out
  have cRn3 := cell_of_row _ _ _ _ _ 3 Rn'.out
  simp only [List.getElem?_toArray, List.getElem?_cons_zero, List.getElem?_cons_succ] at cRs0 cRs1 cRs2 cRs3 cRm0 cRm1 cRm2 cRm3 cRn0 cRn1 cRn2 cRn3
  have hsum : wrap64 ((S.length : Int) + 1) = (S.length : Int) + 1 := by unfold wrap64; omega
  have hsum2 : wrap64 (2 * ((S.length : Int) + 1)) = 2 * ((S.length : Int) + 1) := by unfold wrap64; omega
  have hkd : decide (2 * ((S.length : Int) + 1) < k) = false := decide_eq_false (by omega)
  go_wp2
  clear HB2_ cRs0 cRs1 cRs2 cRs3 cRm0 cRm1 cRm2 cRm3 cRn0 cRn1 cRn2 cRn3
  clear HB2 Rs Rm
  have HB2 := HB2'
  have Rs := Rs'
  have Rm := Rm'
  have Rn := Rn'
  clear HB2' Rs' Rm' Rn'
  generalize hg_ : w3.heap.size = gn at *
  generalize (w3.alloc (.cells #[.int .i64 u, .int .i64 u, .int .i64 0, .bool false] 23)) = w4 at *
  clear hg_ w3
  clear hk hkd hsum hsum2
  go_loopw [12] (fun v12 wr => ∃ i : Nat, i ≤ k ∧ v12 = .int .i64 (i : Int) ∧ Aside0 (wr.heap[w1.heap.size]? = some (.cells #[.int .i64 s0, .int .i64 s1, .int .i64 s2, .slice AS S.length cS] 34 (0, 0))) ∧ Aside0 (wr.heap[w1.heap.size + 1]? = some (.cells #[.int .i64 v, .int .i64 v, .int .i64 0, .bool false] 23 (0, 0))) ∧ Aside0 (Below w1.heap.size w1 wr)) (fun v12 _ => ((k : Int) - intOf v12).toNat)
  case atStart => exact ⟨0, Nat.zero_le _, rfl, Rs, Rm, HB2⟩
  case round =>
    clear Rs Rm Rn HB2
    obtain ⟨i, hi, rfl, Rs, Rm, HB2⟩ := hrel
    by_cases hlt : i < k
    · have hdl : decide ((i : Int) < k) = true := decide_eq_true (by omega)
      obtain ⟨f, t, c, d, f', t', c', d', m, m', e1, e2, e3⟩ := He2.out i hlt
      have He3 := Aside0.mk e1
      have He4 := Aside0.mk e2
      have He5 := Aside0.mk e3
      clear e1 e2 e3
      go_wp2_with (first | (refine wpList_load_row rfl 34 _ rfl (w1.heap.size) rfl 34 #[.int .i64 s0, .int .i64 s1, .int .i64 s2, .slice AS S.length cS] (0, 0) _ Rs.out Try.underlying34 rfl size34 ?_) | (refine wpList_load_row rfl 23 _ rfl (w1.heap.size + 1) rfl 23 #[.int .i64 v, .int .i64 v, .int .i64 0, .bool false] (0, 0) _ Rm.out Try.underlying23 rfl size23 ?_))
      refine (walk.walk v v 0 false s0 s1 s2 AS cS S u i _ (Kd.C_below HCS.out HB2.out) HcS.out (by omega) (by have := HK.out; omega)).mono ?_
      rintro e w5 ⟨rfl, hb⟩
      rw [He3.out]
      have Rs := Aside0.mk ((hb.block _ (Array.getElem?_eq_some_iff.1 Rs.out).1).trans Rs.out)
      have Rm := Aside0.mk ((hb.block _ (Array.getElem?_eq_some_iff.1 Rm.out).1).trans Rm.out)
      have HB2 := Aside0.mk (below_step HB2.out hb)
      clear hb
      have Rs' : Aside0 ((w5.alloc (.cells #[.int .i64 f, .int .i64 t, .int .i64 c, .bool d] 23)).heap[w1.heap.size]? = _) := ⟨(_root_.Go.heap_alloc_old _ _ (Array.getElem?_eq_some_iff.1 Rs.out).1).trans Rs.out⟩
      have Rm' : Aside0 ((w5.alloc (.cells #[.int .i64 f, .int .i64 t, .int .i64 c, .bool d] 23)).heap[w1.heap.size + 1]? = _) := ⟨(_root_.Go.heap_alloc_old _ _ (Array.getElem?_eq_some_iff.1 Rm.out).1).trans Rm.out⟩
      have Ra' : Aside0 ((w5.alloc (.cells #[.int .i64 f, .int .i64 t, .int .i64 c, .bool d] 23)).heap[w5.heap.size]? = _) := ⟨heap_alloc_new _ _⟩
      have HB2' := Aside0.mk (below_step HB2.out ((Below.refl w5.heap.size w5).alloc (Nat.le_refl _) (.cells #[.int .i64 f, .int .i64 t, .int .i64 c, .bool d] 23)))
      go_wp2_with (first | (refine wpList_load_row rfl 34 _ rfl (w1.heap.size) rfl 34 #[.int .i64 s0, .int .i64 s1, .int .i64 s2, .slice AS S.length cS] (0, 0) _ Rs'.out Try.underlying34 rfl size34 ?_) | (refine wpList_load_row rfl 23 _ rfl (w1.heap.size + 1) rfl 23 #[.int .i64 v, .int .i64 v, .int .i64 0, .bool false] (0, 0) _ Rm'.out Try.underlying23 rfl size23 ?_) | (refine wpList_load_row rfl 23 _ rfl (w5.heap.size) rfl 23 #[.int .i64 f, .int .i64 t, .int .i64 c, .bool d] (0, 0) _ Ra'.out Try.underlying23 rfl size23 ?_))
      clear HB2 Rs Rm
      have HB2 := HB2'
      have Rs := Rs'
      have Rm := Rm'
      have Ra := Ra'
      clear HB2' Rs' Rm' Ra'
      generalize hg_ : w5.heap.size = ga at *
      generalize (w5.alloc (.cells #[.int .i64 f, .int .i64 t, .int .i64 c, .bool d] 23)) = w6 at *
      clear hg_ w5
      have hw1 : wrap64 ((i : Int) + 1) = (i : Int) + 1 := by have := HK.out; unfold wrap64; omega
      rw [hw1]
      refine (walk.walk v v 0 false s0 s1 s2 AS cS S u ((i : Int) + 1) _ (Kd.C_below HCS.out HB2.out) HcS.out (by omega) (by have := HK.out; omega)).mono ?_
      rintro e w7 ⟨rfl, hb⟩
      rw [He4.out]
      have Rs := Aside0.mk ((hb.block _ (Array.getElem?_eq_some_iff.1 Rs.out).1).trans Rs.out)
      have Rm := Aside0.mk ((hb.block _ (Array.getElem?_eq_some_iff.1 Rm.out).1).trans Rm.out)
      have Ra := Aside0.mk ((hb.block _ (Array.getElem?_eq_some_iff.1 Ra.out).1).trans Ra.out)
      have HB2 := Aside0.mk (below_step HB2.out hb)
      clear hb
      have Rs' : Aside0 ((w7.alloc (.cells #[.int .i64 f', .int .i64 t', .int .i64 c', .bool d'] 23)).heap[w1.heap.size]? = _) := ⟨(_root_.Go.heap_alloc_old _ _ (Array.getElem?_eq_some_iff.1 Rs.out).1).trans Rs.out⟩
      have Rm' : Aside0 ((w7.alloc (.cells #[.int .i64 f', .int .i64 t', .int .i64 c', .bool d'] 23)).heap[w1.heap.size + 1]? = _) := ⟨(_root_.Go.heap_alloc_old _ _ (Array.getElem?_eq_some_iff.1 Rm.out).1).trans Rm.out⟩
      have Ra' : Aside0 ((w7.alloc (.cells #[.int .i64 f', .int .i64 t', .int .i64 c', .bool d'] 23)).heap[ga]? = _) := ⟨(_root_.Go.heap_alloc_old _ _ (Array.getElem?_eq_some_iff.1 Ra.out).1).trans Ra.out⟩
      have Rb' : Aside0 ((w7.alloc (.cells #[.int .i64 f', .int .i64 t', .int .i64 c', .bool d'] 23)).heap[w7.heap.size]? = _) := ⟨heap_alloc_new _ _⟩
      have HB2' := Aside0.mk (below_step HB2.out ((Below.refl w7.heap.size w7).alloc (Nat.le_refl _) (.cells #[.int .i64 f', .int .i64 t', .int .i64 c', .bool d'] 23)))
      go_wp2_with (first | (refine wpList_load_row rfl 34 _ rfl (w1.heap.size) rfl 34 #[.int .i64 s0, .int .i64 s1, .int .i64 s2, .slice AS S.length cS] (0, 0) _ Rs'.out Try.underlying34 rfl size34 ?_) | (refine wpList_load_row rfl 23 _ rfl (w1.heap.size + 1) rfl 23 #[.int .i64 v, .int .i64 v, .int .i64 0, .bool false] (0, 0) _ Rm'.out Try.underlying23 rfl size23 ?_) | (refine wpList_load_row rfl 23 _ rfl (ga) rfl 23 #[.int .i64 f, .int .i64 t, .int .i64 c, .bool d] (0, 0) _ Ra'.out Try.underlying23 rfl size23 ?_) | (refine wpList_load_row rfl 23 _ rfl (w7.heap.size) rfl 23 #[.int .i64 f', .int .i64 t', .int .i64 c', .bool d'] (0, 0) _ Rb'.out Try.underlying23 rfl size23 ?_))
      clear HB2 Rs Rm Ra
      have HB2 := HB2'
      have Rs := Rs'
      have Rm := Rm'
      have Ra := Ra'
      have Rb := Rb'
      clear HB2' Rs' Rm' Ra' Rb'
      generalize hg_ : w7.heap.size = gb at *
      generalize (w7.alloc (.cells #[.int .i64 f', .int .i64 t', .int .i64 c', .bool d'] 23)) = w8 at *
      clear hg_ w7
      clear He3 He4 hw1
      go_loopw [17, 18] (fun v17 v18 wr => ∃ j : Nat, j ≤ S.length ∧ v17 = .int .i64 ((other f t c f' t' c' (S.take j) : Nat) : Int) ∧ v18 = .int .i64 (j : Int) ∧ Aside0 (wr.heap[w1.heap.size]? = some (.cells #[.int .i64 s0, .int .i64 s1, .int .i64 s2, .slice AS S.length cS] 34 (0, 0))) ∧ Aside0 (wr.heap[w1.heap.size + 1]? = some (.cells #[.int .i64 v, .int .i64 v, .int .i64 0, .bool false] 23 (0, 0))) ∧ Aside0 (wr.heap[ga]? = some (.cells #[.int .i64 f, .int .i64 t, .int .i64 c, .bool d] 23 (0, 0))) ∧ Aside0 (wr.heap[gb]? = some (.cells #[.int .i64 f', .int .i64 t', .int .i64 c', .bool d'] 23 (0, 0))) ∧ Aside0 (Below w1.heap.size w1 wr)) (fun _ v18 _ => ((S.length : Int) - intOf v18).toNat)
      case atStart => exact ⟨0, Nat.zero_le _, rfl, rfl, Rs, Rm, Ra, Rb, HB2⟩
      case round =>
        clear Rs Rm Ra Rb HB2
        obtain ⟨j, hj, rfl, rfl, Rs, Rm, Ra, Rb, HB2⟩ := hrel
        have c3_ : wr.cell? ⟨w1.heap.size, 3, none⟩ = some (.slice AS S.length cS) := (cell_of_row _ _ _ _ _ 3 Rs.out).trans rfl
        by_cases hlt2 : j < S.length
        · have hdj : decide ((j : Int) < (S.length : Int)) = true := decide_eq_true (by omega)
          go_upto_region 16 with (first | (refine wpList_load_row rfl 34 _ rfl (w1.heap.size) rfl 34 #[.int .i64 s0, .int .i64 s1, .int .i64 s2, .slice AS S.length cS] (0, 0) _ Rs.out Try.underlying34 rfl size34 ?_) | (refine wpList_load_row rfl 23 _ rfl (w1.heap.size + 1) rfl 23 #[.int .i64 v, .int .i64 v, .int .i64 0, .bool false] (0, 0) _ Rm.out Try.underlying23 rfl size23 ?_) | (refine wpList_load_row rfl 23 _ rfl (ga) rfl 23 #[.int .i64 f, .int .i64 t, .int .i64 c, .bool d] (0, 0) _ Ra.out Try.underlying23 rfl size23 ?_) | (refine wpList_load_row rfl 23 _ rfl (gb) rfl 23 #[.int .i64 f', .int .i64 t', .int .i64 c', .bool d'] (0, 0) _ Rb.out Try.underlying23 rfl size23 ?_))
          obtain ⟨ad, A7, c7, A8, c8, hA, hx0, -⟩ := at_T46 (Kd.C_below HCS.out HB2.out) (j : Int) (by omega) (by omega)
          have hsn := other_snoc S f t c f' t' c' j hlt2
          obtain ⟨x, hxx⟩ : ∃ x, (rd_T46 S (j : Int)).f0 = x := ⟨_, rfl⟩
          rw [hxx] at hx0 hsn
          subst hA
          obtain ⟨N, hN⟩ : ∃ N, other f t c f' t' c' (S.take j) = N := ⟨_, rfl⟩
          rw [hN] at hsn ⊢
          have hNj : N ≤ j := by rw [← hN]; exact Nat.le_trans List.countP_le_length (by simp; omega)
          clear hN hxx
          have HX := Aside0.mk hx0
          have HSN := Aside0.mk hsn
          have HNJ := Aside0.mk hNj
          clear hx0 hsn hNj
          have hk_ : ∀ w', Below wr.heap.size wr w' → w'.cell? ⟨w1.heap.size, 3, none⟩ = some (.slice (some ad) S.length cS) ∧ w'.cell? ⟨ga, 0, none⟩ = some (.int .i64 f) ∧ w'.cell? ⟨ga, 1, none⟩ = some (.int .i64 t) ∧ w'.cell? ⟨ga, 2, none⟩ = some (.int .i64 c) ∧ w'.cell? ⟨ga, 3, none⟩ = some (.bool d) ∧ w'.cell? ⟨gb, 0, none⟩ = some (.int .i64 f') ∧ w'.cell? ⟨gb, 1, none⟩ = some (.int .i64 t') ∧ w'.cell? ⟨gb, 2, none⟩ = some (.int .i64 c') ∧ w'.cell? ⟨gb, 3, none⟩ = some (.bool d') ∧ w'.cell? (ad.add (j * 10)) = some (.int .i64 x) ∧ Below wr.heap.size wr w' := by
            intro w' hb
            have hr : ∀ (g : Nat) (cs : Array Value) (ty : TypeId) (j : Nat) (v : Value), wr.heap[g]? = some (.cells cs ty (0, 0)) → cs[j]? = some v → w'.cell? ⟨g, j, none⟩ = some v := by
              intro g cs ty j v hg hv
              have hg' := (hb.block g (Array.getElem?_eq_some_iff.1 hg).1).trans hg
              rw [cell_of_row _ _ _ _ _ _ hg', hv]
            exact ⟨hr _ _ _ _ _ Rs.out rfl, hr _ _ _ _ _ Ra.out rfl, hr _ _ _ _ _ Ra.out rfl, hr _ _ _ _ _ Ra.out rfl, hr _ _ _ _ _ Ra.out rfl, hr _ _ _ _ _ Rb.out rfl, hr _ _ _ _ _ Rb.out rfl, hr _ _ _ _ _ Rb.out rfl, hr _ _ _ _ _ Rb.out rfl, (hb.cell (World.block_lt_of_cell? wr _ HX.out)).trans HX.out, hb⟩
          clear c3_
          by_cases hrr : routeI f t c x = routeI f' t' c' x
          · skip
            have hsn := HSN.out
            rw [if_pos hrr] at hsn
            have HSN' := Aside0.mk hsn
            clear hsn HSN
            have hr1 : (routeI f t c x != routeI f' t' c' x) = false := by simp [hrr]
            have hr2 : (routeI f t c x == routeI f' t' c' x) = true := by simp [hrr]
            have hr3 : decide (routeI f t c x = routeI f' t' c' x) = true := by simp [hrr]
            clear hrr
            go_region_held3 (fun w' => w'.cell? ⟨w1.heap.size, 3, none⟩ = some (.slice (some ad) S.length cS) ∧ w'.cell? ⟨ga, 0, none⟩ = some (.int .i64 f) ∧ w'.cell? ⟨ga, 1, none⟩ = some (.int .i64 t) ∧ w'.cell? ⟨ga, 2, none⟩ = some (.int .i64 c) ∧ w'.cell? ⟨ga, 3, none⟩ = some (.bool d) ∧ w'.cell? ⟨gb, 0, none⟩ = some (.int .i64 f') ∧ w'.cell? ⟨gb, 1, none⟩ = some (.int .i64 t') ∧ w'.cell? ⟨gb, 2, none⟩ = some (.int .i64 c') ∧ w'.cell? ⟨gb, 3, none⟩ = some (.bool d') ∧ w'.cell? (ad.add (j * 10)) = some (.int .i64 x) ∧ Below wr.heap.size wr w') (first | exact hk_ _ (by assumption) | exact hk_ _ (Below.refl _ _).drew | (go_split_ands; exact hk_ _ (by assumption)) | (go_split_ands; exact hk_ _ (Below.drew (by assumption)))) (first | (go_at_call 18; go_split_ands; refine (route.walk _ _ _ _ _ _).mono ?_; rintro e w' ⟨rfl, hb⟩; have hbb := below_step (by assumption) hb; clear hb))
            go_wp2
            exact ⟨⟨j + 1, by omega, by rw [HSN'.out]; rfl, by have := HK.out; go_num, ⟨row_lift Rs.out (by assumption)⟩, ⟨row_lift Rm.out (by assumption)⟩, ⟨row_lift Ra.out (by assumption)⟩, ⟨row_lift Rb.out (by assumption)⟩, ⟨below_step HB2.out (by assumption)⟩⟩, by show ((S.length : Int) - ((j : Int) + 1)).toNat < ((S.length : Int) - j).toNat; omega⟩
          · skip
            have hsn := HSN.out
            rw [if_neg hrr] at hsn
            have HSN' := Aside0.mk hsn
            clear hsn HSN
            have hr1 : (routeI f t c x != routeI f' t' c' x) = true := by simp [hrr]
            have hr2 : (routeI f t c x == routeI f' t' c' x) = false := by simp [hrr]
            have hr3 : decide (routeI f t c x = routeI f' t' c' x) = false := by simp [hrr]
            clear hrr
            go_region_held3 (fun w' => w'.cell? ⟨w1.heap.size, 3, none⟩ = some (.slice (some ad) S.length cS) ∧ w'.cell? ⟨ga, 0, none⟩ = some (.int .i64 f) ∧ w'.cell? ⟨ga, 1, none⟩ = some (.int .i64 t) ∧ w'.cell? ⟨ga, 2, none⟩ = some (.int .i64 c) ∧ w'.cell? ⟨ga, 3, none⟩ = some (.bool d) ∧ w'.cell? ⟨gb, 0, none⟩ = some (.int .i64 f') ∧ w'.cell? ⟨gb, 1, none⟩ = some (.int .i64 t') ∧ w'.cell? ⟨gb, 2, none⟩ = some (.int .i64 c') ∧ w'.cell? ⟨gb, 3, none⟩ = some (.bool d') ∧ w'.cell? (ad.add (j * 10)) = some (.int .i64 x) ∧ Below wr.heap.size wr w') (first | exact hk_ _ (by assumption) | exact hk_ _ (Below.refl _ _).drew | (go_split_ands; exact hk_ _ (by assumption)) | (go_split_ands; exact hk_ _ (Below.drew (by assumption)))) (first | (go_at_call 18; go_split_ands; refine (route.walk _ _ _ _ _ _).mono ?_; rintro e w' ⟨rfl, hb⟩; have hbb := below_step (by assumption) hb; clear hb))
            go_wp2
            exact ⟨⟨j + 1, by omega, by rw [HSN'.out]; have := HNJ.out; rw [show wrap64 ((N : Int) + 1) = ((N + 1 : Nat) : Int) by unfold wrap64; omega], by have := HK.out; go_num, ⟨row_lift Rs.out (by assumption)⟩, ⟨row_lift Rm.out (by assumption)⟩, ⟨row_lift Ra.out (by assumption)⟩, ⟨row_lift Rb.out (by assumption)⟩, ⟨below_step HB2.out (by assumption)⟩⟩, by show ((S.length : Int) - ((j : Int) + 1)).toNat < ((S.length : Int) - j).toNat; omega⟩
        · have hjS : j = S.length := by omega
          subst hjS
          have hdj : decide (((S.length : Nat) : Int) < (S.length : Int)) = false := decide_eq_false (by omega)
          rw [List.take_length]
          obtain ⟨N, hN⟩ : ∃ N, other f t c f' t' c' S = N := ⟨_, rfl⟩
          have hN1 := He5.out
          rw [hN] at hN1 ⊢
          have hdN : decide ((1 : Int) < (N : Int)) = false := decide_eq_false (by omega)
          clear hN hN1
          have hw1 : wrap64 ((i : Int) + 1) = (i : Int) + 1 := by have := HK.out; unfold wrap64; omega
          go_wp2_with (first | (refine wpList_load_row rfl 34 _ rfl (w1.heap.size) rfl 34 #[.int .i64 s0, .int .i64 s1, .int .i64 s2, .slice AS S.length cS] (0, 0) _ Rs.out Try.underlying34 rfl size34 ?_) | (refine wpList_load_row rfl 23 _ rfl (w1.heap.size + 1) rfl 23 #[.int .i64 v, .int .i64 v, .int .i64 0, .bool false] (0, 0) _ Rm.out Try.underlying23 rfl size23 ?_) | (refine wpList_load_row rfl 23 _ rfl (ga) rfl 23 #[.int .i64 f, .int .i64 t, .int .i64 c, .bool d] (0, 0) _ Ra.out Try.underlying23 rfl size23 ?_) | (refine wpList_load_row rfl 23 _ rfl (gb) rfl 23 #[.int .i64 f', .int .i64 t', .int .i64 c', .bool d'] (0, 0) _ Rb.out Try.underlying23 rfl size23 ?_))
          exact ⟨⟨i + 1, by omega, by rw [hw1]; go_num, Rs, Rm, HB2⟩, by rw [hw1]; show ((k : Int) - ((i : Int) + 1)).toNat < ((k : Int) - i).toNat; omega⟩
    · have hdl : decide ((i : Int) < k) = false := decide_eq_false (by omega)
      go_wp2_with fail
      refine (known.walk _).mono ?_
      rintro e w9 ⟨rfl, hb⟩
      go_wp2
      go_ret
      exact ⟨by first | rfl | simp, below_step HB1.out (below_step HB2.out hb)⟩
theorem moveWalks.row (a0 : Option Addr) (len0 cap0 : Nat) (z0 : List Int) (a1 a2 : Int) (w : World) (w0 : (a0 = none ∧ len0 = 0 ∧ cap0 = 0 ∧ z0 = []) ∨ ∃ x, a0 = some x ∧ len0 ≤ cap0 ∧ cap0 ≤ maxLen ∧ z0.length = cap0 ∧ (∀ i, i < z0.length → w.cell? (x.add i) = some (.int .u8 (z0.getD i 0))) ∧ ∀ n ∈ z0, (Lit.int .u8 n).wf = true) (w1 : (Lit.int .u8 a1).wf = true) (w2 : (Lit.int .u8 a2).wf = true) :
    Calls Try.prog 6 #[.slice a0 len0 cap0, .int .u8 a1, .int .u8 a2] w fun e w' => e = .returned (.bool true) ∧ Below w.heap.size w w' := by
  obtain ⟨l0, rfl, hr0, hm0, hw0, hc0⟩ := ReadsInt.ofRowC w0
  exact moveWalks.walk a0 cap0 l0 a1 a2 w (Kd.C_of_reads (d := (0 : Int)) (h1 := fun _ => rfl) hr0) hc0 (bytes_of hw0) (bounds_u8 w1) (bounds_u8 w2)
end Go.Proofs.Ytajfefjmfelnbaa
