/- MoveParts: the law's walk. -/
import Derived.Test.YtajfefjmfelnbaaPartsPure
import Derived.Test.YtajfefjmfelnbaaKnown
import Derived.Test.YtajfefjmfelnbaaStateUse
import Derived.OpenShut
import Derived.Test.YtajfefjmfelnbaaOthers
namespace Go.Proofs.Ytajfefjmfelnbaa
open Go.RowKit Go.Proofs.YtajfefjmfelnbaaW.PrintWords Go.Proofs.YtajfefjmfelnbaaW.PrintLast Go.Proofs.YtajfefjmfelnbaaW.PrintMore BState Go.ChangeShapes Go.WideShapes
set_option linter.unusedVariables false
set_option linter.unusedSimpArgs false
set_option maxRecDepth 100000 in
set_option maxHeartbeats 8000000 in
theorem moveParts.walk (A : Option Addr) (cc : Nat) (l : List Int) (k v a b : Int) (w : World) (hC : Kd.C (Kd.int .u8) w A l.length l) (hc : l.length ≤ cc) (hb : Bytes l) (hk : 0 ≤ k ∧ k ≤ 255) (hv : 0 ≤ v ∧ v ≤ 255) (ha : 0 ≤ a ∧ a ≤ 255) (hb' : 0 ≤ b ∧ b ≤ 255) :
    Calls Try.prog 7 #[.slice A l.length cc, .int .u8 k, .int .u8 v, .int .u8 a, .int .u8 b] w fun e w' => e = .returned (.bool true) ∧ Below w.heap.size w w' := by
  obtain ⟨s0, s1, s2, S, hF, hst⟩ := state_use l hb
  have HF := Aside0.mk hF
  have HST := Aside0.mk hst
  have HC := Aside0.mk hC
  have HCC := Aside0.mk hc
  have HK := Aside0.mk hk
  have HV := Aside0.mk hv
  have HA := Aside0.mk ha
  have HB' := Aside0.mk hb'
  have hS6 : S.length ≤ 6 := hF.1
  clear hF hst hC hc hk hv ha hb' hb
  have hu34 := Try.underlying34
  have hu23 := Try.underlying23
  go_enter Try.func7, Try.ntmps7
  go_wp2_with fail
  refine (HST.out A cc w HC.out HCC.out).mono ?_
  rintro e w1 ⟨AS, cS, rfl, hcS, hCS, hb⟩
  have HB1 := Aside0.mk hb
  have HCS := Aside0.mk hCS
  have HcS := Aside0.mk hcS
  clear hb hCS hcS
  go_wp2_with fail
  obtain ⟨u, hto, hto1⟩ : ∃ g, wrap64 (1 + wrap64 (v.tmod 3)) = g ∧ 1 ≤ g ∧ g ≤ 3 := ⟨_, rfl, by have := HV.out; rw [Int.tmod_eq_emod_of_nonneg this.1]; unfold wrap64; omega⟩
  obtain ⟨x, hx, hx1⟩ : ∃ x : Nat, wrap64 (a.tmod 20) = (x : Int) ∧ x < 20 := ⟨(a % 20).toNat, by have := HA.out; rw [Int.tmod_eq_emod_of_nonneg this.1]; unfold wrap64; omega, by omega⟩
  obtain ⟨y, hy, hy1⟩ : ∃ y : Nat, wrap64 (b.tmod 20) = (y : Int) ∧ y < 20 := ⟨(b % 20).toNat, by have := HB'.out; rw [Int.tmod_eq_emod_of_nonneg this.1]; unfold wrap64; omega, by omega⟩
  rw [hto, hx, hy]
  obtain ⟨f, t, c, d, hmx⟩ : ∃ f t c d, mixI k = (f, t, c, d) := ⟨_, _, _, _, rfl⟩
  have hrest := mix_rest k HK.out.1 HK.out.2
  rw [hmx] at hrest
  obtain ⟨f1, t1, c1, d1, i, f2, t2, c2, d2, j, hi, hj, e1, e2, e3, e4, e5⟩ := parts_law S u hto1 x y f t c d hrest
  have HMX := Aside0.mk hmx
  have He1 := Aside0.mk e1
  have He2 := Aside0.mk e2
  have He3 := Aside0.mk e3
  have He4 := Aside0.mk e4
  have He5 := Aside0.mk e5
  clear hmx hrest e1 e2 e3 e4 e5 hto hx hy
  have Rs : Aside0 ((w1.alloc (.cells #[.int .i64 s0, .int .i64 s1, .int .i64 s2, .slice AS S.length cS] 34)).heap[w1.heap.size]? = _) := ⟨heap_alloc_new _ _⟩
  have HB2 := Aside0.mk ((Below.refl w1.heap.size w1).alloc (Nat.le_refl _) (.cells #[.int .i64 s0, .int .i64 s1, .int .i64 s2, .slice AS S.length cS] 34))
  generalize w1.alloc (.cells #[.int .i64 s0, .int .i64 s1, .int .i64 s2, .slice AS S.length cS] 34) = w2 at *
  refine (mix.walk k HK.out.1 HK.out.2 _).mono ?_
  rintro e w3 ⟨rfl, hb⟩
  rw [HMX.out]
  have Rs := Aside0.mk ((hb.block _ (Array.getElem?_eq_some_iff.1 Rs.out).1).trans Rs.out)
  have HB2 := Aside0.mk (below_step HB2.out hb)
  clear hb
  have Rs' : Aside0 ((w3.alloc (.cells #[.int .i64 f, .int .i64 t, .int .i64 c, .bool d] 23)).heap[w1.heap.size]? = _) := ⟨(_root_.Go.heap_alloc_old _ _ (Array.getElem?_eq_some_iff.1 Rs.out).1).trans Rs.out⟩
  have Rm' : Aside0 ((w3.alloc (.cells #[.int .i64 f, .int .i64 t, .int .i64 c, .bool d] 23)).heap[w3.heap.size]? = _) := ⟨heap_alloc_new _ _⟩
  have HB2' := Aside0.mk (below_step HB2.out ((Below.refl w3.heap.size w3).alloc (Nat.le_refl _) (.cells #[.int .i64 f, .int .i64 t, .int .i64 c, .bool d] 23)))
  go_wp2_with (first | (refine wpList_load_row rfl 34 _ rfl (w1.heap.size) rfl 34 #[.int .i64 s0, .int .i64 s1, .int .i64 s2, .slice AS S.length cS] (0, 0) _ Rs'.out Try.underlying34 rfl size34 ?_) | (refine wpList_load_row rfl 23 _ rfl (w3.heap.size) rfl 23 #[.int .i64 f, .int .i64 t, .int .i64 c, .bool d] (0, 0) _ Rm'.out Try.underlying23 rfl size23 ?_))
  clear HB2 Rs
  have HB2 := HB2'
  have Rs := Rs'
  have Rm := Rm'
  clear HB2' Rs' Rm'
  generalize hg_ : w3.heap.size = gm at *
  generalize (w3.alloc (.cells #[.int .i64 f, .int .i64 t, .int .i64 c, .bool d] 23)) = w4 at *
  clear hg_ w3
  refine (walk.walk f t c d s0 s1 s2 AS cS S u x _ (Kd.C_below HCS.out HB2.out) HcS.out (by omega) (by omega)).mono ?_
  rintro e w5 ⟨rfl, hb⟩
  rw [He1.out]
  have Rs := Aside0.mk ((hb.block _ (Array.getElem?_eq_some_iff.1 Rs.out).1).trans Rs.out)
  have Rm := Aside0.mk ((hb.block _ (Array.getElem?_eq_some_iff.1 Rm.out).1).trans Rm.out)
  have HB2 := Aside0.mk (below_step HB2.out hb)
  clear hb
  have Rs' : Aside0 ((w5.alloc (.cells #[.int .i64 f1, .int .i64 t1, .int .i64 c1, .bool d1] 23)).heap[w1.heap.size]? = _) := ⟨(_root_.Go.heap_alloc_old _ _ (Array.getElem?_eq_some_iff.1 Rs.out).1).trans Rs.out⟩
  have Rm' : Aside0 ((w5.alloc (.cells #[.int .i64 f1, .int .i64 t1, .int .i64 c1, .bool d1] 23)).heap[gm]? = _) := ⟨(_root_.Go.heap_alloc_old _ _ (Array.getElem?_eq_some_iff.1 Rm.out).1).trans Rm.out⟩
  have Rn' : Aside0 ((w5.alloc (.cells #[.int .i64 f1, .int .i64 t1, .int .i64 c1, .bool d1] 23)).heap[w5.heap.size]? = _) := ⟨heap_alloc_new _ _⟩
  have HB2' := Aside0.mk (below_step HB2.out ((Below.refl w5.heap.size w5).alloc (Nat.le_refl _) (.cells #[.int .i64 f1, .int .i64 t1, .int .i64 c1, .bool d1] 23)))
  go_wp2_with (first | (refine wpList_load_row rfl 34 _ rfl (w1.heap.size) rfl 34 #[.int .i64 s0, .int .i64 s1, .int .i64 s2, .slice AS S.length cS] (0, 0) _ Rs'.out Try.underlying34 rfl size34 ?_) | (refine wpList_load_row rfl 23 _ rfl (gm) rfl 23 #[.int .i64 f, .int .i64 t, .int .i64 c, .bool d] (0, 0) _ Rm'.out Try.underlying23 rfl size23 ?_) | (refine wpList_load_row rfl 23 _ rfl (w5.heap.size) rfl 23 #[.int .i64 f1, .int .i64 t1, .int .i64 c1, .bool d1] (0, 0) _ Rn'.out Try.underlying23 rfl size23 ?_))
  clear HB2 Rs Rm
  have HB2 := HB2'
  have Rs := Rs'
  have Rm := Rm'
  have Rn := Rn'
  clear HB2' Rs' Rm' Rn'
  generalize hg_ : w5.heap.size = gn at *
  generalize (w5.alloc (.cells #[.int .i64 f1, .int .i64 t1, .int .i64 c1, .bool d1] 23)) = w6 at *
  clear hg_ w5
  refine (walk.walk f1 t1 c1 d1 s0 s1 s2 AS cS S u y _ (Kd.C_below HCS.out HB2.out) HcS.out (by omega) (by omega)).mono ?_
  rintro e w7 ⟨rfl, hb⟩
  rw [He2.out]
  have Rs := Aside0.mk ((hb.block _ (Array.getElem?_eq_some_iff.1 Rs.out).1).trans Rs.out)
  have Rm := Aside0.mk ((hb.block _ (Array.getElem?_eq_some_iff.1 Rm.out).1).trans Rm.out)
  have Rn := Aside0.mk ((hb.block _ (Array.getElem?_eq_some_iff.1 Rn.out).1).trans Rn.out)
  have HB2 := Aside0.mk (below_step HB2.out hb)
  clear hb
  have Rs' : Aside0 ((w7.alloc (.cells #[.int .i64 f2, .int .i64 t2, .int .i64 c2, .bool d2] 23)).heap[w1.heap.size]? = _) := ⟨(_root_.Go.heap_alloc_old _ _ (Array.getElem?_eq_some_iff.1 Rs.out).1).trans Rs.out⟩
  have Rm' : Aside0 ((w7.alloc (.cells #[.int .i64 f2, .int .i64 t2, .int .i64 c2, .bool d2] 23)).heap[gm]? = _) := ⟨(_root_.Go.heap_alloc_old _ _ (Array.getElem?_eq_some_iff.1 Rm.out).1).trans Rm.out⟩
  have Rn' : Aside0 ((w7.alloc (.cells #[.int .i64 f2, .int .i64 t2, .int .i64 c2, .bool d2] 23)).heap[gn]? = _) := ⟨(_root_.Go.heap_alloc_old _ _ (Array.getElem?_eq_some_iff.1 Rn.out).1).trans Rn.out⟩
  have Rp' : Aside0 ((w7.alloc (.cells #[.int .i64 f2, .int .i64 t2, .int .i64 c2, .bool d2] 23)).heap[w7.heap.size]? = _) := ⟨heap_alloc_new _ _⟩
  have HB2' := Aside0.mk (below_step HB2.out ((Below.refl w7.heap.size w7).alloc (Nat.le_refl _) (.cells #[.int .i64 f2, .int .i64 t2, .int .i64 c2, .bool d2] 23)))
  go_wp2_with (first | (refine wpList_load_row rfl 34 _ rfl (w1.heap.size) rfl 34 #[.int .i64 s0, .int .i64 s1, .int .i64 s2, .slice AS S.length cS] (0, 0) _ Rs'.out Try.underlying34 rfl size34 ?_) | (refine wpList_load_row rfl 23 _ rfl (gm) rfl 23 #[.int .i64 f, .int .i64 t, .int .i64 c, .bool d] (0, 0) _ Rm'.out Try.underlying23 rfl size23 ?_) | (refine wpList_load_row rfl 23 _ rfl (gn) rfl 23 #[.int .i64 f1, .int .i64 t1, .int .i64 c1, .bool d1] (0, 0) _ Rn'.out Try.underlying23 rfl size23 ?_) | (refine wpList_load_row rfl 23 _ rfl (w7.heap.size) rfl 23 #[.int .i64 f2, .int .i64 t2, .int .i64 c2, .bool d2] (0, 0) _ Rp'.out Try.underlying23 rfl size23 ?_))
  clear HB2 Rs Rm Rn
  have HB2 := HB2'
  have Rs := Rs'
  have Rm := Rm'
  have Rn := Rn'
  have Rp := Rp'
  clear HB2' Rs' Rm' Rn' Rp'
  generalize hg_ : w7.heap.size = gp at *
  generalize (w7.alloc (.cells #[.int .i64 f2, .int .i64 t2, .int .i64 c2, .bool d2] 23)) = w8 at *
  clear hg_ w7
  refine (walk.walk f t c d s0 s1 s2 AS cS S u (x + y) _ (Kd.C_below HCS.out HB2.out) HcS.out (by omega) (by omega)).mono ?_
  rintro e w9 ⟨rfl, hb⟩
  rw [He3.out]
  have Rs := Aside0.mk ((hb.block _ (Array.getElem?_eq_some_iff.1 Rs.out).1).trans Rs.out)
  have Rm := Aside0.mk ((hb.block _ (Array.getElem?_eq_some_iff.1 Rm.out).1).trans Rm.out)
  have Rn := Aside0.mk ((hb.block _ (Array.getElem?_eq_some_iff.1 Rn.out).1).trans Rn.out)
  have Rp := Aside0.mk ((hb.block _ (Array.getElem?_eq_some_iff.1 Rp.out).1).trans Rp.out)
  have HB2 := Aside0.mk (below_step HB2.out hb)
  clear hb
  have Rs' : Aside0 ((w9.alloc (.cells #[.int .i64 f2, .int .i64 t2, .int .i64 c2, .bool d2] 23)).heap[w1.heap.size]? = _) := ⟨(_root_.Go.heap_alloc_old _ _ (Array.getElem?_eq_some_iff.1 Rs.out).1).trans Rs.out⟩
  have Rm' : Aside0 ((w9.alloc (.cells #[.int .i64 f2, .int .i64 t2, .int .i64 c2, .bool d2] 23)).heap[gm]? = _) := ⟨(_root_.Go.heap_alloc_old _ _ (Array.getElem?_eq_some_iff.1 Rm.out).1).trans Rm.out⟩
  have Rn' : Aside0 ((w9.alloc (.cells #[.int .i64 f2, .int .i64 t2, .int .i64 c2, .bool d2] 23)).heap[gn]? = _) := ⟨(_root_.Go.heap_alloc_old _ _ (Array.getElem?_eq_some_iff.1 Rn.out).1).trans Rn.out⟩
  have Rp' : Aside0 ((w9.alloc (.cells #[.int .i64 f2, .int .i64 t2, .int .i64 c2, .bool d2] 23)).heap[gp]? = _) := ⟨(_root_.Go.heap_alloc_old _ _ (Array.getElem?_eq_some_iff.1 Rp.out).1).trans Rp.out⟩
  have Rq' : Aside0 ((w9.alloc (.cells #[.int .i64 f2, .int .i64 t2, .int .i64 c2, .bool d2] 23)).heap[w9.heap.size]? = _) := ⟨heap_alloc_new _ _⟩
  have HB2' := Aside0.mk (below_step HB2.out ((Below.refl w9.heap.size w9).alloc (Nat.le_refl _) (.cells #[.int .i64 f2, .int .i64 t2, .int .i64 c2, .bool d2] 23)))
  go_wp2_with (first | (refine wpList_load_row rfl 34 _ rfl (w1.heap.size) rfl 34 #[.int .i64 s0, .int .i64 s1, .int .i64 s2, .slice AS S.length cS] (0, 0) _ Rs'.out Try.underlying34 rfl size34 ?_) | (refine wpList_load_row rfl 23 _ rfl (gm) rfl 23 #[.int .i64 f, .int .i64 t, .int .i64 c, .bool d] (0, 0) _ Rm'.out Try.underlying23 rfl size23 ?_) | (refine wpList_load_row rfl 23 _ rfl (gn) rfl 23 #[.int .i64 f1, .int .i64 t1, .int .i64 c1, .bool d1] (0, 0) _ Rn'.out Try.underlying23 rfl size23 ?_) | (refine wpList_load_row rfl 23 _ rfl (gp) rfl 23 #[.int .i64 f2, .int .i64 t2, .int .i64 c2, .bool d2] (0, 0) _ Rp'.out Try.underlying23 rfl size23 ?_) | (refine wpList_load_row rfl 23 _ rfl (w9.heap.size) rfl 23 #[.int .i64 f2, .int .i64 t2, .int .i64 c2, .bool d2] (0, 0) _ Rq'.out Try.underlying23 rfl size23 ?_))
  clear HB2 Rs Rm Rn Rp
  have HB2 := HB2'
  have Rs := Rs'
  have Rm := Rm'
  have Rn := Rn'
  have Rp := Rp'
  have Rq := Rq'
  clear HB2' Rs' Rm' Rn' Rp' Rq'
  generalize hg_ : w9.heap.size = gq at *
  generalize (w9.alloc (.cells #[.int .i64 f2, .int .i64 t2, .int .i64 c2, .bool d2] 23)) = w10 at *
  clear hg_ w9
  refine (walk.walk f t c d s0 s1 s2 AS cS S 4 x _ (Kd.C_below HCS.out HB2.out) HcS.out (by omega) (by omega)).mono ?_
  rintro e w11 ⟨rfl, hb⟩
  rw [He4.out]
  have Rs := Aside0.mk ((hb.block _ (Array.getElem?_eq_some_iff.1 Rs.out).1).trans Rs.out)
  have Rm := Aside0.mk ((hb.block _ (Array.getElem?_eq_some_iff.1 Rm.out).1).trans Rm.out)
  have Rn := Aside0.mk ((hb.block _ (Array.getElem?_eq_some_iff.1 Rn.out).1).trans Rn.out)
  have Rp := Aside0.mk ((hb.block _ (Array.getElem?_eq_some_iff.1 Rp.out).1).trans Rp.out)
  have Rq := Aside0.mk ((hb.block _ (Array.getElem?_eq_some_iff.1 Rq.out).1).trans Rq.out)
  have HB2 := Aside0.mk (below_step HB2.out hb)
  clear hb
  have Rs' : Aside0 ((w11.alloc (.cells #[.int .i64 f, .int .i64 t, .int .i64 c, .bool d] 23)).heap[w1.heap.size]? = _) := ⟨(_root_.Go.heap_alloc_old _ _ (Array.getElem?_eq_some_iff.1 Rs.out).1).trans Rs.out⟩
  have Rm' : Aside0 ((w11.alloc (.cells #[.int .i64 f, .int .i64 t, .int .i64 c, .bool d] 23)).heap[gm]? = _) := ⟨(_root_.Go.heap_alloc_old _ _ (Array.getElem?_eq_some_iff.1 Rm.out).1).trans Rm.out⟩
  have Rn' : Aside0 ((w11.alloc (.cells #[.int .i64 f, .int .i64 t, .int .i64 c, .bool d] 23)).heap[gn]? = _) := ⟨(_root_.Go.heap_alloc_old _ _ (Array.getElem?_eq_some_iff.1 Rn.out).1).trans Rn.out⟩
  have Rp' : Aside0 ((w11.alloc (.cells #[.int .i64 f, .int .i64 t, .int .i64 c, .bool d] 23)).heap[gp]? = _) := ⟨(_root_.Go.heap_alloc_old _ _ (Array.getElem?_eq_some_iff.1 Rp.out).1).trans Rp.out⟩
  have Rq' : Aside0 ((w11.alloc (.cells #[.int .i64 f, .int .i64 t, .int .i64 c, .bool d] 23)).heap[gq]? = _) := ⟨(_root_.Go.heap_alloc_old _ _ (Array.getElem?_eq_some_iff.1 Rq.out).1).trans Rq.out⟩
  have Ro' : Aside0 ((w11.alloc (.cells #[.int .i64 f, .int .i64 t, .int .i64 c, .bool d] 23)).heap[w11.heap.size]? = _) := ⟨heap_alloc_new _ _⟩
  have HB2' := Aside0.mk (below_step HB2.out ((Below.refl w11.heap.size w11).alloc (Nat.le_refl _) (.cells #[.int .i64 f, .int .i64 t, .int .i64 c, .bool d] 23)))
  go_wp2_with (first | (refine wpList_load_row rfl 34 _ rfl (w1.heap.size) rfl 34 #[.int .i64 s0, .int .i64 s1, .int .i64 s2, .slice AS S.length cS] (0, 0) _ Rs'.out Try.underlying34 rfl size34 ?_) | (refine wpList_load_row rfl 23 _ rfl (gm) rfl 23 #[.int .i64 f, .int .i64 t, .int .i64 c, .bool d] (0, 0) _ Rm'.out Try.underlying23 rfl size23 ?_) | (refine wpList_load_row rfl 23 _ rfl (gn) rfl 23 #[.int .i64 f1, .int .i64 t1, .int .i64 c1, .bool d1] (0, 0) _ Rn'.out Try.underlying23 rfl size23 ?_) | (refine wpList_load_row rfl 23 _ rfl (gp) rfl 23 #[.int .i64 f2, .int .i64 t2, .int .i64 c2, .bool d2] (0, 0) _ Rp'.out Try.underlying23 rfl size23 ?_) | (refine wpList_load_row rfl 23 _ rfl (gq) rfl 23 #[.int .i64 f2, .int .i64 t2, .int .i64 c2, .bool d2] (0, 0) _ Rq'.out Try.underlying23 rfl size23 ?_) | (refine wpList_load_row rfl 23 _ rfl (w11.heap.size) rfl 23 #[.int .i64 f, .int .i64 t, .int .i64 c, .bool d] (0, 0) _ Ro'.out Try.underlying23 rfl size23 ?_))
  clear HB2 Rs Rm Rn Rp Rq
  have HB2 := HB2'
  have Rs := Rs'
  have Rm := Rm'
  have Rn := Rn'
  have Rp := Rp'
  have Rq := Rq'
  have Ro := Ro'
  clear HB2' Rs' Rm' Rn' Rp' Rq' Ro'
  generalize hg_ : w11.heap.size = go at *
  generalize (w11.alloc (.cells #[.int .i64 f, .int .i64 t, .int .i64 c, .bool d] 23)) = w12 at *
  clear hg_ w11
  refine (known.walk _).mono ?_
  rintro e w13 ⟨rfl, hb⟩
  have Rs := Aside0.mk ((hb.block _ (Array.getElem?_eq_some_iff.1 Rs.out).1).trans Rs.out)
  have Rm := Aside0.mk ((hb.block _ (Array.getElem?_eq_some_iff.1 Rm.out).1).trans Rm.out)
  have Rn := Aside0.mk ((hb.block _ (Array.getElem?_eq_some_iff.1 Rn.out).1).trans Rn.out)
  have Rp := Aside0.mk ((hb.block _ (Array.getElem?_eq_some_iff.1 Rp.out).1).trans Rp.out)
  have Rq := Aside0.mk ((hb.block _ (Array.getElem?_eq_some_iff.1 Rq.out).1).trans Rq.out)
  have Ro := Aside0.mk ((hb.block _ (Array.getElem?_eq_some_iff.1 Ro.out).1).trans Ro.out)
  have HB2 := Aside0.mk (below_step HB2.out hb)
  clear hb
  have hix : decide ((i : Int) ≤ x) = true := decide_eq_true (by omega)
  have hsum : wrap64 ((i : Int) + j) = (i : Int) + j := by unfold wrap64; omega
  have hsum2 : wrap64 ((x : Int) + y) = (x : Int) + y := by unfold wrap64; omega
  by_cases hxy : (i : Int) + j = x + y
  · skip
    have cRm0 := cell_of_row _ _ _ _ _ 0 Rm.out
    have cRm1 := cell_of_row _ _ _ _ _ 1 Rm.out
    have cRm2 := cell_of_row _ _ _ _ _ 2 Rm.out
    have cRm3 := cell_of_row _ _ _ _ _ 3 Rm.out
    simp only [List.getElem?_toArray, List.getElem?_cons_zero, List.getElem?_cons_succ] at cRm0 cRm1 cRm2 cRm3
    have cRn0 := cell_of_row _ _ _ _ _ 0 Rn.out
    have cRn1 := cell_of_row _ _ _ _ _ 1 Rn.out
    have cRn2 := cell_of_row _ _ _ _ _ 2 Rn.out
    have cRn3 := cell_of_row _ _ _ _ _ 3 Rn.out
    simp only [List.getElem?_toArray, List.getElem?_cons_zero, List.getElem?_cons_succ] at cRn0 cRn1 cRn2 cRn3
    have cRp0 := cell_of_row _ _ _ _ _ 0 Rp.out
    have cRp1 := cell_of_row _ _ _ _ _ 1 Rp.out
    have cRp2 := cell_of_row _ _ _ _ _ 2 Rp.out
    have cRp3 := cell_of_row _ _ _ _ _ 3 Rp.out
    simp only [List.getElem?_toArray, List.getElem?_cons_zero, List.getElem?_cons_succ] at cRp0 cRp1 cRp2 cRp3
    have cRq0 := cell_of_row _ _ _ _ _ 0 Rq.out
    have cRq1 := cell_of_row _ _ _ _ _ 1 Rq.out
    have cRq2 := cell_of_row _ _ _ _ _ 2 Rq.out
    have cRq3 := cell_of_row _ _ _ _ _ 3 Rq.out
    simp only [List.getElem?_toArray, List.getElem?_cons_zero, List.getElem?_cons_succ] at cRq0 cRq1 cRq2 cRq3
    have cRo0 := cell_of_row _ _ _ _ _ 0 Ro.out
    have cRo1 := cell_of_row _ _ _ _ _ 1 Ro.out
    have cRo2 := cell_of_row _ _ _ _ _ 2 Ro.out
    have cRo3 := cell_of_row _ _ _ _ _ 3 Ro.out
    simp only [List.getElem?_toArray, List.getElem?_cons_zero, List.getElem?_cons_succ] at cRo0 cRo1 cRo2 cRo3
    go_wp2
    go_ret
    exact ⟨by first | rfl | simp, below_step HB1.out HB2.out⟩
  · obtain ⟨q1, q2, q3, q4⟩ := He5.out.resolve_left (by omega)
    subst q1 q2 q3 q4
    have cRm0 := cell_of_row _ _ _ _ _ 0 Rm.out
    have cRm1 := cell_of_row _ _ _ _ _ 1 Rm.out
    have cRm2 := cell_of_row _ _ _ _ _ 2 Rm.out
    have cRm3 := cell_of_row _ _ _ _ _ 3 Rm.out
    simp only [List.getElem?_toArray, List.getElem?_cons_zero, List.getElem?_cons_succ] at cRm0 cRm1 cRm2 cRm3
    have cRn0 := cell_of_row _ _ _ _ _ 0 Rn.out
    have cRn1 := cell_of_row _ _ _ _ _ 1 Rn.out
    have cRn2 := cell_of_row _ _ _ _ _ 2 Rn.out
    have cRn3 := cell_of_row _ _ _ _ _ 3 Rn.out
    simp only [List.getElem?_toArray, List.getElem?_cons_zero, List.getElem?_cons_succ] at cRn0 cRn1 cRn2 cRn3
    have cRp0 := cell_of_row _ _ _ _ _ 0 Rp.out
    have cRp1 := cell_of_row _ _ _ _ _ 1 Rp.out
    have cRp2 := cell_of_row _ _ _ _ _ 2 Rp.out
    have cRp3 := cell_of_row _ _ _ _ _ 3 Rp.out
    simp only [List.getElem?_toArray, List.getElem?_cons_zero, List.getElem?_cons_succ] at cRp0 cRp1 cRp2 cRp3
    have cRq0 := cell_of_row _ _ _ _ _ 0 Rq.out
    have cRq1 := cell_of_row _ _ _ _ _ 1 Rq.out
    have cRq2 := cell_of_row _ _ _ _ _ 2 Rq.out
    have cRq3 := cell_of_row _ _ _ _ _ 3 Rq.out
    simp only [List.getElem?_toArray, List.getElem?_cons_zero, List.getElem?_cons_succ] at cRq0 cRq1 cRq2 cRq3
    have cRo0 := cell_of_row _ _ _ _ _ 0 Ro.out
    have cRo1 := cell_of_row _ _ _ _ _ 1 Ro.out
    have cRo2 := cell_of_row _ _ _ _ _ 2 Ro.out
    have cRo3 := cell_of_row _ _ _ _ _ 3 Ro.out
    simp only [List.getElem?_toArray, List.getElem?_cons_zero, List.getElem?_cons_succ] at cRo0 cRo1 cRo2 cRo3
    have hxyd : decide ((i : Int) + j = x + y) = false := decide_eq_false hxy
    go_wp2
    go_ret
    exact ⟨by first | rfl | simp, below_step HB1.out HB2.out⟩
theorem moveParts.row (a0 : Option Addr) (len0 cap0 : Nat) (z0 : List Int) (a1 a2 a3 a4 : Int) (w : World) (w0 : (a0 = none ∧ len0 = 0 ∧ cap0 = 0 ∧ z0 = []) ∨ ∃ x, a0 = some x ∧ len0 ≤ cap0 ∧ cap0 ≤ maxLen ∧ z0.length = cap0 ∧ (∀ i, i < z0.length → w.cell? (x.add i) = some (.int .u8 (z0.getD i 0))) ∧ ∀ n ∈ z0, (Lit.int .u8 n).wf = true) (w1 : (Lit.int .u8 a1).wf = true) (w2 : (Lit.int .u8 a2).wf = true) (w3 : (Lit.int .u8 a3).wf = true) (w4 : (Lit.int .u8 a4).wf = true) :
    Calls Try.prog 7 #[.slice a0 len0 cap0, .int .u8 a1, .int .u8 a2, .int .u8 a3, .int .u8 a4] w fun e w' => e = .returned (.bool true) ∧ Below w.heap.size w w' := by
  obtain ⟨l0, rfl, hr0, hm0, hw0, hc0⟩ := ReadsInt.ofRowC w0
  exact moveParts.walk a0 cap0 l0 a1 a2 a3 a4 w (Kd.C_of_reads (d := (0 : Int)) (h1 := fun _ => rfl) hr0) hc0 (bytes_of hw0) (bounds_u8 w1) (bounds_u8 w2) (bounds_u8 w3) (bounds_u8 w4)
end Go.Proofs.Ytajfefjmfelnbaa
