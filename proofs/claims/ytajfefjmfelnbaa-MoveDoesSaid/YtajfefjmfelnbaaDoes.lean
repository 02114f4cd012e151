/- does: the walk: all answers are the same. -/
import Derived.Test.YtajfefjmfelnbaaDoesPure
import Derived.OpenShut
namespace Go.Proofs.Ytajfefjmfelnbaa
open Go.RowKit Go.Proofs.YtajfefjmfelnbaaW.PrintWords Go.Proofs.YtajfefjmfelnbaaW.PrintLast Go.Proofs.YtajfefjmfelnbaaW.PrintMore BState Go.ChangeShapes Go.WideShapes
set_option linter.unusedVariables false
set_option linter.unusedSimpArgs false
theorem row_below {w w' : World} {g : Nat} {o : Obj} (h : w.heap[g]? = some o) (hb : Below w.heap.size w w') : w'.heap[g]? = some o := (hb.block g (Array.getElem?_eq_some_iff.1 h).1).trans h
theorem row_alloc {w : World} {g : Nat} {o : Obj} (h : w.heap[g]? = some o) (o' : Obj) : (w.alloc o').heap[g]? = some o := (_root_.Go.heap_alloc_old _ _ (Array.getElem?_eq_some_iff.1 h).1).trans h
theorem below_alloc' {B : Nat} {w0 w : World} (h : Below B w0 w) (o : Obj) (hB : B ≤ w.heap.size) : Below B w0 (w.alloc o) := h.alloc hB o
theorem row_cell {w w' : World} {g : Nat} {cs : Array Value} {t : TypeId} (h : w.heap[g]? = some (.cells cs t (0, 0))) (hb : Below w.heap.size w w') (i : Nat) (v : Value) (hv : cs[i]? = some v) : w'.cell? ⟨g, i, none⟩ = some v := by
 rw [cell_of_row _ _ _ _ _ _ (row_below h hb), hv]
/-- An error's number. -/
def errI (q : Nat) : Int := ((q % 100 : Nat) : Int)
theorem errI_w1 (q : Nat) : wrap64 (errI q) = errI q := by unfold errI; exact w64 _ (by omega)
theorem errI_w2 (q : Nat) : IntKind.i64.wrap (errI q) = errI q := (i64_w _).trans (errI_w1 q)
theorem begin_err (f t c : Int) (b : Bool) (v : Int) : ∃ q, (beginI f t c b v).2.2.2.2 = errI q := by
 unfold beginI
 split
 ·exact ⟨50, rfl⟩
 ·split
  ·exact ⟨51, rfl⟩
  ·exact ⟨0, rfl⟩
theorem turn_err (f t c : Int) (b : Bool) : ∃ tf tt tc tb q, Bknown.move_Turn.f f t c b = some (tf, tt, tc, tb, errI q) := by
 unfold Bknown.move_Turn.f BBegin.move_moves.f
 rw [Option.bind_some]
 by_cases h : (f != t) = true
 ·rw [if_pos h]; exact ⟨_, _, _, _, 0, rfl⟩
 ·rw [if_neg h]; exact ⟨_, _, _, _, 30, rfl⟩
attribute [local go_sem] errI_w1 errI_w2   -- for this text's walk alone
set_option maxRecDepth 100000 in
set_option maxHeartbeats 8000000 in
theorem does.walk (f t c : Int) (d : Bool) (s0 s1 s2 : Int) (AS : Option Addr) (cS : Nat) (S : List S46) (v m : Int) (w : World) (hC : Kd.C k46 w AS S.length S) (hc : S.length ≤ cS) (hl : S.length ≤ 60) (hN : Nums S) (hm : m ≤ 50) :
 Calls Try.prog 19 #[.agg #[.int .i64 f, .int .i64 t, .int .i64 c, .bool d], .agg #[.int .i64 s0, .int .i64 s1, .int .i64 s2, .slice AS S.length cS], .int .i64 v, .int .i64 m] w fun e w' => e = .returned (.bool true) ∧ Below w.heap.size w w' := by
 have HC := Aside0.mk hC
 have HCC := Aside0.mk hc
 have HNN := Aside0.mk hN
 have HL := Aside0.mk hl
 have HM := Aside0.mk hm
 clear hC hc hN hl hm
 have hu34 := Try.underlying34
 have hu23 := Try.underlying23
 have Rm : Aside0 (((w.alloc (.cells #[.int .i64 f, .int .i64 t, .int .i64 c, .bool d] 23)).alloc (.cells #[.int .i64 s0, .int .i64 s1, .int .i64 s2, .slice AS S.length cS] 34)).heap[w.heap.size]? = some (.cells #[.int .i64 f, .int .i64 t, .int .i64 c, .bool d] 23 (0, 0))) := ⟨row_alloc (heap_alloc_new _ _) _⟩
 have Rs : Aside0 (((w.alloc (.cells #[.int .i64 f, .int .i64 t, .int .i64 c, .bool d] 23)).alloc (.cells #[.int .i64 s0, .int .i64 s1, .int .i64 s2, .slice AS S.length cS] 34)).heap[w.heap.size + 1]? = some (.cells #[.int .i64 s0, .int .i64 s1, .int .i64 s2, .slice AS S.length cS] 34 (0, 0))) := ⟨by
  have h := heap_alloc_new (w.alloc (.cells #[.int .i64 f, .int .i64 t, .int .i64 c, .bool d] 23)) (.cells #[.int .i64 s0, .int .i64 s1, .int .i64 s2, .slice AS S.length cS] 34)
  rwa [size_alloc] at h⟩
 have HB : Aside0 (Below w.heap.size w ((w.alloc (.cells #[.int .i64 f, .int .i64 t, .int .i64 c, .bool d] 23)).alloc (.cells #[.int .i64 s0, .int .i64 s1, .int .i64 s2, .slice AS S.length cS] 34))) := ⟨((Below.refl _ _).alloc (Nat.le_refl _) _).alloc (by rw [size_alloc]; omega) _⟩
 obtain ⟨qb, hqb⟩ := begin_err f t c d v
 obtain ⟨bf, bt, bc, bb, be, hbe⟩ : ∃ bf bt bc bb be, beginI f t c d v = (bf, bt, bc, bb, be) := ⟨_, _, _, _, _, rfl⟩
 rw [hbe] at hqb
 obtain rfl : be = errI qb := hqb
 have HBE := Aside0.mk hbe
 clear hbe
 obtain ⟨tf, tt, tc, tb, qt, hte⟩ := turn_err f t c d
 have HTE := Aside0.mk hte
 clear hte
 obtain ⟨sf, st, sc, sb, so, hso⟩ : ∃ sf st sc sb so, stepI f t c d S = (sf, st, sc, sb, so) := ⟨_, _, _, _, _, rfl⟩
 have HSO := Aside0.mk hso
 clear hso
 obtain ⟨uf, ut, uc, ub, un, hun⟩ : ∃ uf ut uc ub un, goI f t c d S v m = (uf, ut, uc, ub, un) := ⟨_, _, _, _, _, rfl⟩
 have HUN := Aside0.mk hun
 clear hun
 obtain ⟨L, hL1, hL2⟩ := lefts_pure (by have := HL.out; omega) HNN.out s0 s1 s2 f t c d
 have HL1 := Aside0.mk hL1
 have HL2 := Aside0.mk hL2
 clear hL1 hL2
 go_enter Try.func19, Try.ntmps19
 go_wp2_with fail
 generalize (w.alloc (.cells #[.int .i64 f, .int .i64 t, .int .i64 c, .bool d] 23)).alloc (.cells #[.int .i64 s0, .int .i64 s1, .int .i64 s2, .slice AS S.length cS] 34) = w2 at *
 refine (BBegin.move_Begin.calls 1 f t c d v bf bt bc bb (errI qb) _ (by rw [begin_pure, HBE.out])).mono ?_
 rintro e w3 ⟨rfl, hb⟩
 have Rm' := Aside0.mk (row_below Rm.out hb)
 have Rs' := Aside0.mk (row_below Rs.out hb)
 have HB' := Aside0.mk (below_step HB.out hb)
 clear hb HB Rm Rs
 have HB := HB'
 have Rm := Rm'
 have Rs := Rs'
 clear HB' Rm' Rs'
 have Rm' : Aside0 ((w3.alloc (.cells #[.int .i64 bf, .int .i64 bt, .int .i64 bc, .bool bb] 23)).heap[w.heap.size]? = _) := ⟨row_alloc Rm.out _⟩
 have Rs' : Aside0 ((w3.alloc (.cells #[.int .i64 bf, .int .i64 bt, .int .i64 bc, .bool bb] 23)).heap[w.heap.size + 1]? = _) := ⟨row_alloc Rs.out _⟩
 have Ra' : Aside0 ((w3.alloc (.cells #[.int .i64 bf, .int .i64 bt, .int .i64 bc, .bool bb] 23)).heap[w3.heap.size]? = _) := ⟨heap_alloc_new _ _⟩
 have HB' : Aside0 (Below w.heap.size w (w3.alloc (.cells #[.int .i64 bf, .int .i64 bt, .int .i64 bc, .bool bb] 23))) := ⟨below_alloc' HB.out _ (by have := HB.out.size; omega)⟩
 go_wp2_with (first | (refine wpList_load_row rfl 23 _ rfl (w.heap.size) rfl 23 #[.int .i64 f, .int .i64 t, .int .i64 c, .bool d] (0, 0) _ Rm'.out Try.underlying23 rfl size23 ?_) | (refine wpList_load_row rfl 34 _ rfl (w.heap.size + 1) rfl 34 #[.int .i64 s0, .int .i64 s1, .int .i64 s2, .slice AS S.length cS] (0, 0) _ Rs'.out Try.underlying34 rfl size34 ?_))
 clear HB Rm Rs
 have HB := HB'
 have Rm := Rm'
 have Rs := Rs'
 have Ra := Ra'
 clear HB' Rm' Rs' Ra'
 generalize hg_ : w3.heap.size = ga at *
 generalize (w3.alloc (.cells #[.int .i64 bf, .int .i64 bt, .int .i64 bc, .bool bb] 23)) = w4 at *
 clear hg_ w3
 refine (VWalk.roadsteadref16_Begin.calls 1 f t c d v bf bt bc bb (errI qb) _ (by rw [ref_begin, HBE.out])).mono ?_
 rintro e w5 ⟨rfl, hb⟩
 have Rm' := Aside0.mk (row_below Rm.out hb)
 have Rs' := Aside0.mk (row_below Rs.out hb)
 have Ra' := Aside0.mk (row_below Ra.out hb)
 have HB' := Aside0.mk (below_step HB.out hb)
 clear hb HB Rm Rs Ra
 have HB := HB'
 have Rm := Rm'
 have Rs := Rs'
 have Ra := Ra'
 clear HB' Rm' Rs' Ra'
 have Rm' : Aside0 ((w5.alloc (.cells #[.int .i64 bf, .int .i64 bt, .int .i64 bc, .bool bb] 23)).heap[w.heap.size]? = _) := ⟨row_alloc Rm.out _⟩
 have Rs' : Aside0 ((w5.alloc (.cells #[.int .i64 bf, .int .i64 bt, .int .i64 bc, .bool bb] 23)).heap[w.heap.size + 1]? = _) := ⟨row_alloc Rs.out _⟩
 have Ra' : Aside0 ((w5.alloc (.cells #[.int .i64 bf, .int .i64 bt, .int .i64 bc, .bool bb] 23)).heap[ga]? = _) := ⟨row_alloc Ra.out _⟩
 have Rb' : Aside0 ((w5.alloc (.cells #[.int .i64 bf, .int .i64 bt, .int .i64 bc, .bool bb] 23)).heap[w5.heap.size]? = _) := ⟨heap_alloc_new _ _⟩
 have HB' : Aside0 (Below w.heap.size w (w5.alloc (.cells #[.int .i64 bf, .int .i64 bt, .int .i64 bc, .bool bb] 23))) := ⟨below_alloc' HB.out _ (by have := HB.out.size; omega)⟩
 go_wp2_with (first | (refine wpList_load_row rfl 23 _ rfl (w.heap.size) rfl 23 #[.int .i64 f, .int .i64 t, .int .i64 c, .bool d] (0, 0) _ Rm'.out Try.underlying23 rfl size23 ?_) | (refine wpList_load_row rfl 34 _ rfl (w.heap.size + 1) rfl 34 #[.int .i64 s0, .int .i64 s1, .int .i64 s2, .slice AS S.length cS] (0, 0) _ Rs'.out Try.underlying34 rfl size34 ?_))
 clear HB Rm Rs Ra
 have HB := HB'
 have Rm := Rm'
 have Rs := Rs'
 have Ra := Ra'
 have Rb := Rb'
 clear HB' Rm' Rs' Ra' Rb'
 generalize hg_ : w5.heap.size = gb at *
 generalize (w5.alloc (.cells #[.int .i64 bf, .int .i64 bt, .int .i64 bc, .bool bb] 23)) = w6 at *
 clear hg_ w5
 clear HBE
 refine (Bknown.move_Turn.calls f t c d tf tt tc tb (errI qt) _ HTE.out).mono ?_
 rintro e w7 ⟨rfl, hb⟩
 have Rm' := Aside0.mk (row_below Rm.out hb)
 have Rs' := Aside0.mk (row_below Rs.out hb)
 have Ra' := Aside0.mk (row_below Ra.out hb)
 have Rb' := Aside0.mk (row_below Rb.out hb)
 have HB' := Aside0.mk (below_step HB.out hb)
 clear hb HB Rm Rs Ra Rb
 have HB := HB'
 have Rm := Rm'
 have Rs := Rs'
 have Ra := Ra'
 have Rb := Rb'
 clear HB' Rm' Rs' Ra' Rb'
 have Rm' : Aside0 ((w7.alloc (.cells #[.int .i64 tf, .int .i64 tt, .int .i64 tc, .bool tb] 23)).heap[w.heap.size]? = _) := ⟨row_alloc Rm.out _⟩
 have Rs' : Aside0 ((w7.alloc (.cells #[.int .i64 tf, .int .i64 tt, .int .i64 tc, .bool tb] 23)).heap[w.heap.size + 1]? = _) := ⟨row_alloc Rs.out _⟩
 have Ra' : Aside0 ((w7.alloc (.cells #[.int .i64 tf, .int .i64 tt, .int .i64 tc, .bool tb] 23)).heap[ga]? = _) := ⟨row_alloc Ra.out _⟩
 have Rb' : Aside0 ((w7.alloc (.cells #[.int .i64 tf, .int .i64 tt, .int .i64 tc, .bool tb] 23)).heap[gb]? = _) := ⟨row_alloc Rb.out _⟩
 have Rc' : Aside0 ((w7.alloc (.cells #[.int .i64 tf, .int .i64 tt, .int .i64 tc, .bool tb] 23)).heap[w7.heap.size]? = _) := ⟨heap_alloc_new _ _⟩
 have HB' : Aside0 (Below w.heap.size w (w7.alloc (.cells #[.int .i64 tf, .int .i64 tt, .int .i64 tc, .bool tb] 23))) := ⟨below_alloc' HB.out _ (by have := HB.out.size; omega)⟩
 go_wp2_with (first | (refine wpList_load_row rfl 23 _ rfl (w.heap.size) rfl 23 #[.int .i64 f, .int .i64 t, .int .i64 c, .bool d] (0, 0) _ Rm'.out Try.underlying23 rfl size23 ?_) | (refine wpList_load_row rfl 34 _ rfl (w.heap.size + 1) rfl 34 #[.int .i64 s0, .int .i64 s1, .int .i64 s2, .slice AS S.length cS] (0, 0) _ Rs'.out Try.underlying34 rfl size34 ?_))
 clear HB Rm Rs Ra Rb
 have HB := HB'
 have Rm := Rm'
 have Rs := Rs'
 have Ra := Ra'
 have Rb := Rb'
 have Rc := Rc'
 clear HB' Rm' Rs' Ra' Rb' Rc'
 generalize hg_ : w7.heap.size = gc at *
 generalize (w7.alloc (.cells #[.int .i64 tf, .int .i64 tt, .int .i64 tc, .bool tb] 23)) = w8 at *
 clear hg_ w7
 refine (VTurn.roadsteadref16_Turn.calls f t c d tf tt tc tb (errI qt) _ (by rw [ref_turn, HTE.out])).mono ?_
 rintro e w9 ⟨rfl, hb⟩
 have Rm' := Aside0.mk (row_below Rm.out hb)
 have Rs' := Aside0.mk (row_below Rs.out hb)
 have Ra' := Aside0.mk (row_below Ra.out hb)
 have Rb' := Aside0.mk (row_below Rb.out hb)
 have Rc' := Aside0.mk (row_below Rc.out hb)
 have HB' := Aside0.mk (below_step HB.out hb)
 clear hb HB Rm Rs Ra Rb Rc
 have HB := HB'
 have Rm := Rm'
 have Rs := Rs'
 have Ra := Ra'
 have Rb := Rb'
 have Rc := Rc'
 clear HB' Rm' Rs' Ra' Rb' Rc'
 have Rm' : Aside0 ((w9.alloc (.cells #[.int .i64 tf, .int .i64 tt, .int .i64 tc, .bool tb] 23)).heap[w.heap.size]? = _) := ⟨row_alloc Rm.out _⟩
 have Rs' : Aside0 ((w9.alloc (.cells #[.int .i64 tf, .int .i64 tt, .int .i64 tc, .bool tb] 23)).heap[w.heap.size + 1]? = _) := ⟨row_alloc Rs.out _⟩
 have Ra' : Aside0 ((w9.alloc (.cells #[.int .i64 tf, .int .i64 tt, .int .i64 tc, .bool tb] 23)).heap[ga]? = _) := ⟨row_alloc Ra.out _⟩
 have Rb' : Aside0 ((w9.alloc (.cells #[.int .i64 tf, .int .i64 tt, .int .i64 tc, .bool tb] 23)).heap[gb]? = _) := ⟨row_alloc Rb.out _⟩
 have Rc' : Aside0 ((w9.alloc (.cells #[.int .i64 tf, .int .i64 tt, .int .i64 tc, .bool tb] 23)).heap[gc]? = _) := ⟨row_alloc Rc.out _⟩
 have Rd' : Aside0 ((w9.alloc (.cells #[.int .i64 tf, .int .i64 tt, .int .i64 tc, .bool tb] 23)).heap[w9.heap.size]? = _) := ⟨heap_alloc_new _ _⟩
 have HB' : Aside0 (Below w.heap.size w (w9.alloc (.cells #[.int .i64 tf, .int .i64 tt, .int .i64 tc, .bool tb] 23))) := ⟨below_alloc' HB.out _ (by have := HB.out.size; omega)⟩
 go_wp2_with (first | (refine wpList_load_row rfl 23 _ rfl (w.heap.size) rfl 23 #[.int .i64 f, .int .i64 t, .int .i64 c, .bool d] (0, 0) _ Rm'.out Try.underlying23 rfl size23 ?_) | (refine wpList_load_row rfl 34 _ rfl (w.heap.size + 1) rfl 34 #[.int .i64 s0, .int .i64 s1, .int .i64 s2, .slice AS S.length cS] (0, 0) _ Rs'.out Try.underlying34 rfl size34 ?_))
 clear HB Rm Rs Ra Rb Rc
 have HB := HB'
 have Rm := Rm'
 have Rs := Rs'
 have Ra := Ra'
 have Rb := Rb'
 have Rc := Rc'
 have Rd := Rd'
 clear HB' Rm' Rs' Ra' Rb' Rc' Rd'
 generalize hg_ : w9.heap.size = gd at *
 generalize (w9.alloc (.cells #[.int .i64 tf, .int .i64 tt, .int .i64 tc, .bool tb] 23)) = w10 at *
 clear hg_ w9
 clear HTE
 refine (step.walk f t c d s0 s1 s2 AS cS S _ (Kd.C_below HC.out HB.out) HCC.out (by have := HL.out; omega)).mono ?_
 rintro e w11 ⟨rfl, hb⟩
 rw [HSO.out]
 have Rm' := Aside0.mk (row_below Rm.out hb)
 have Rs' := Aside0.mk (row_below Rs.out hb)
 have Ra' := Aside0.mk (row_below Ra.out hb)
 have Rb' := Aside0.mk (row_below Rb.out hb)
 have Rc' := Aside0.mk (row_below Rc.out hb)
 have Rd' := Aside0.mk (row_below Rd.out hb)
 have HB' := Aside0.mk (below_step HB.out hb)
 clear hb HB Rm Rs Ra Rb Rc Rd
 have HB := HB'
 have Rm := Rm'
 have Rs := Rs'
 have Ra := Ra'
 have Rb := Rb'
 have Rc := Rc'
 have Rd := Rd'
 clear HB' Rm' Rs' Ra' Rb' Rc' Rd'
 have Rm' : Aside0 ((w11.alloc (.cells #[.int .i64 sf, .int .i64 st, .int .i64 sc, .bool sb] 23)).heap[w.heap.size]? = _) := ⟨row_alloc Rm.out _⟩
 have Rs' : Aside0 ((w11.alloc (.cells #[.int .i64 sf, .int .i64 st, .int .i64 sc, .bool sb] 23)).heap[w.heap.size + 1]? = _) := ⟨row_alloc Rs.out _⟩
 have Ra' : Aside0 ((w11.alloc (.cells #[.int .i64 sf, .int .i64 st, .int .i64 sc, .bool sb] 23)).heap[ga]? = _) := ⟨row_alloc Ra.out _⟩
 have Rb' : Aside0 ((w11.alloc (.cells #[.int .i64 sf, .int .i64 st, .int .i64 sc, .bool sb] 23)).heap[gb]? = _) := ⟨row_alloc Rb.out _⟩
 have Rc' : Aside0 ((w11.alloc (.cells #[.int .i64 sf, .int .i64 st, .int .i64 sc, .bool sb] 23)).heap[gc]? = _) := ⟨row_alloc Rc.out _⟩
 have Rd' : Aside0 ((w11.alloc (.cells #[.int .i64 sf, .int .i64 st, .int .i64 sc, .bool sb] 23)).heap[gd]? = _) := ⟨row_alloc Rd.out _⟩
 have Rx' : Aside0 ((w11.alloc (.cells #[.int .i64 sf, .int .i64 st, .int .i64 sc, .bool sb] 23)).heap[w11.heap.size]? = _) := ⟨heap_alloc_new _ _⟩
 have HB' : Aside0 (Below w.heap.size w (w11.alloc (.cells #[.int .i64 sf, .int .i64 st, .int .i64 sc, .bool sb] 23))) := ⟨below_alloc' HB.out _ (by have := HB.out.size; omega)⟩
 go_wp2_with (first | (refine wpList_load_row rfl 23 _ rfl (w.heap.size) rfl 23 #[.int .i64 f, .int .i64 t, .int .i64 c, .bool d] (0, 0) _ Rm'.out Try.underlying23 rfl size23 ?_) | (refine wpList_load_row rfl 34 _ rfl (w.heap.size + 1) rfl 34 #[.int .i64 s0, .int .i64 s1, .int .i64 s2, .slice AS S.length cS] (0, 0) _ Rs'.out Try.underlying34 rfl size34 ?_))
 clear HB Rm Rs Ra Rb Rc Rd
 have HB := HB'
 have Rm := Rm'
 have Rs := Rs'
 have Ra := Ra'
 have Rb := Rb'
 have Rc := Rc'
 have Rd := Rd'
 have Rx := Rx'
 clear HB' Rm' Rs' Ra' Rb' Rc' Rd' Rx'
 generalize hg_ : w11.heap.size = gx at *
 generalize (w11.alloc (.cells #[.int .i64 sf, .int .i64 st, .int .i64 sc, .bool sb] 23)) = w12 at *
 clear hg_ w11
 refine (VWalk.roadsteadref16_Step.calls 1001 f t c d s0 s1 s2 AS cS S sf st sc sb so _ (Kd.C_below HC.out HB.out) HCC.out (by rw [ref_step (by have := HL.out; omega) 1001 (by have := HL.out; omega), HSO.out])).mono ?_
 rintro e w13 ⟨rfl, hb⟩
 have Rm' := Aside0.mk (row_below Rm.out hb)
 have Rs' := Aside0.mk (row_below Rs.out hb)
 have Ra' := Aside0.mk (row_below Ra.out hb)
 have Rb' := Aside0.mk (row_below Rb.out hb)
 have Rc' := Aside0.mk (row_below Rc.out hb)
 have Rd' := Aside0.mk (row_below Rd.out hb)
 have Rx' := Aside0.mk (row_below Rx.out hb)
 have HB' := Aside0.mk (below_step HB.out hb)
 clear hb HB Rm Rs Ra Rb Rc Rd Rx
 have HB := HB'
 have Rm := Rm'
 have Rs := Rs'
 have Ra := Ra'
 have Rb := Rb'
 have Rc := Rc'
 have Rd := Rd'
 have Rx := Rx'
 clear HB' Rm' Rs' Ra' Rb' Rc' Rd' Rx'
 have Rm' : Aside0 ((w13.alloc (.cells #[.int .i64 sf, .int .i64 st, .int .i64 sc, .bool sb] 23)).heap[w.heap.size]? = _) := ⟨row_alloc Rm.out _⟩
 have Rs' : Aside0 ((w13.alloc (.cells #[.int .i64 sf, .int .i64 st, .int .i64 sc, .bool sb] 23)).heap[w.heap.size + 1]? = _) := ⟨row_alloc Rs.out _⟩
 have Ra' : Aside0 ((w13.alloc (.cells #[.int .i64 sf, .int .i64 st, .int .i64 sc, .bool sb] 23)).heap[ga]? = _) := ⟨row_alloc Ra.out _⟩
 have Rb' : Aside0 ((w13.alloc (.cells #[.int .i64 sf, .int .i64 st, .int .i64 sc, .bool sb] 23)).heap[gb]? = _) := ⟨row_alloc Rb.out _⟩
 have Rc' : Aside0 ((w13.alloc (.cells #[.int .i64 sf, .int .i64 st, .int .i64 sc, .bool sb] 23)).heap[gc]? = _) := ⟨row_alloc Rc.out _⟩
 have Rd' : Aside0 ((w13.alloc (.cells #[.int .i64 sf, .int .i64 st, .int .i64 sc, .bool sb] 23)).heap[gd]? = _) := ⟨row_alloc Rd.out _⟩
 have Rx' : Aside0 ((w13.alloc (.cells #[.int .i64 sf, .int .i64 st, .int .i64 sc, .bool sb] 23)).heap[gx]? = _) := ⟨row_alloc Rx.out _⟩
 have Ry' : Aside0 ((w13.alloc (.cells #[.int .i64 sf, .int .i64 st, .int .i64 sc, .bool sb] 23)).heap[w13.heap.size]? = _) := ⟨heap_alloc_new _ _⟩
 have HB' : Aside0 (Below w.heap.size w (w13.alloc (.cells #[.int .i64 sf, .int .i64 st, .int .i64 sc, .bool sb] 23))) := ⟨below_alloc' HB.out _ (by have := HB.out.size; omega)⟩
 go_wp2_with (first | (refine wpList_load_row rfl 23 _ rfl (w.heap.size) rfl 23 #[.int .i64 f, .int .i64 t, .int .i64 c, .bool d] (0, 0) _ Rm'.out Try.underlying23 rfl size23 ?_) | (refine wpList_load_row rfl 34 _ rfl (w.heap.size + 1) rfl 34 #[.int .i64 s0, .int .i64 s1, .int .i64 s2, .slice AS S.length cS] (0, 0) _ Rs'.out Try.underlying34 rfl size34 ?_))
 clear HB Rm Rs Ra Rb Rc Rd Rx
 have HB := HB'
 have Rm := Rm'
 have Rs := Rs'
 have Ra := Ra'
 have Rb := Rb'
 have Rc := Rc'
 have Rd := Rd'
 have Rx := Rx'
 have Ry := Ry'
 clear HB' Rm' Rs' Ra' Rb' Rc' Rd' Rx' Ry'
 generalize hg_ : w13.heap.size = gy at *
 generalize (w13.alloc (.cells #[.int .i64 sf, .int .i64 st, .int .i64 sc, .bool sb] 23)) = w14 at *
 clear hg_ w13
 clear HSO
 refine (walk.walk f t c d s0 s1 s2 AS cS S v m _ (Kd.C_below HC.out HB.out) HCC.out (by have := HL.out; omega) (by have := HM.out; omega)).mono ?_
 rintro e w15 ⟨rfl, hb⟩
 rw [HUN.out]
 have Rm' := Aside0.mk (row_below Rm.out hb)
 have Rs' := Aside0.mk (row_below Rs.out hb)
 have Ra' := Aside0.mk (row_below Ra.out hb)
 have Rb' := Aside0.mk (row_below Rb.out hb)
 have Rc' := Aside0.mk (row_below Rc.out hb)
 have Rd' := Aside0.mk (row_below Rd.out hb)
 have Rx' := Aside0.mk (row_below Rx.out hb)
 have Ry' := Aside0.mk (row_below Ry.out hb)
 have HB' := Aside0.mk (below_step HB.out hb)
 clear hb HB Rm Rs Ra Rb Rc Rd Rx Ry
 have HB := HB'
 have Rm := Rm'
 have Rs := Rs'
 have Ra := Ra'
 have Rb := Rb'
 have Rc := Rc'
 have Rd := Rd'
 have Rx := Rx'
 have Ry := Ry'
 clear HB' Rm' Rs' Ra' Rb' Rc' Rd' Rx' Ry'
 have Rm' : Aside0 ((w15.alloc (.cells #[.int .i64 uf, .int .i64 ut, .int .i64 uc, .bool ub] 23)).heap[w.heap.size]? = _) := ⟨row_alloc Rm.out _⟩
 have Rs' : Aside0 ((w15.alloc (.cells #[.int .i64 uf, .int .i64 ut, .int .i64 uc, .bool ub] 23)).heap[w.heap.size + 1]? = _) := ⟨row_alloc Rs.out _⟩
 have Ra' : Aside0 ((w15.alloc (.cells #[.int .i64 uf, .int .i64 ut, .int .i64 uc, .bool ub] 23)).heap[ga]? = _) := ⟨row_alloc Ra.out _⟩
 have Rb' : Aside0 ((w15.alloc (.cells #[.int .i64 uf, .int .i64 ut, .int .i64 uc, .bool ub] 23)).heap[gb]? = _) := ⟨row_alloc Rb.out _⟩
 have Rc' : Aside0 ((w15.alloc (.cells #[.int .i64 uf, .int .i64 ut, .int .i64 uc, .bool ub] 23)).heap[gc]? = _) := ⟨row_alloc Rc.out _⟩
 have Rd' : Aside0 ((w15.alloc (.cells #[.int .i64 uf, .int .i64 ut, .int .i64 uc, .bool ub] 23)).heap[gd]? = _) := ⟨row_alloc Rd.out _⟩
 have Rx' : Aside0 ((w15.alloc (.cells #[.int .i64 uf, .int .i64 ut, .int .i64 uc, .bool ub] 23)).heap[gx]? = _) := ⟨row_alloc Rx.out _⟩
 have Ry' : Aside0 ((w15.alloc (.cells #[.int .i64 uf, .int .i64 ut, .int .i64 uc, .bool ub] 23)).heap[gy]? = _) := ⟨row_alloc Ry.out _⟩
 have Ru' : Aside0 ((w15.alloc (.cells #[.int .i64 uf, .int .i64 ut, .int .i64 uc, .bool ub] 23)).heap[w15.heap.size]? = _) := ⟨heap_alloc_new _ _⟩
 have HB' : Aside0 (Below w.heap.size w (w15.alloc (.cells #[.int .i64 uf, .int .i64 ut, .int .i64 uc, .bool ub] 23))) := ⟨below_alloc' HB.out _ (by have := HB.out.size; omega)⟩
 go_wp2_with (first | (refine wpList_load_row rfl 23 _ rfl (w.heap.size) rfl 23 #[.int .i64 f, .int .i64 t, .int .i64 c, .bool d] (0, 0) _ Rm'.out Try.underlying23 rfl size23 ?_) | (refine wpList_load_row rfl 34 _ rfl (w.heap.size + 1) rfl 34 #[.int .i64 s0, .int .i64 s1, .int .i64 s2, .slice AS S.length cS] (0, 0) _ Rs'.out Try.underlying34 rfl size34 ?_))
 clear HB Rm Rs Ra Rb Rc Rd Rx Ry
 have HB := HB'
 have Rm := Rm'
 have Rs := Rs'
 have Ra := Ra'
 have Rb := Rb'
 have Rc := Rc'
 have Rd := Rd'
 have Rx := Rx'
 have Ry := Ry'
 have Ru := Ru'
 clear HB' Rm' Rs' Ra' Rb' Rc' Rd' Rx' Ry' Ru'
 generalize hg_ : w15.heap.size = gu at *
 generalize (w15.alloc (.cells #[.int .i64 uf, .int .i64 ut, .int .i64 uc, .bool ub] 23)) = w16 at *
 clear hg_ w15
 refine (VWalk.roadsteadref16_Walk.calls 5000 f t c d s0 s1 s2 AS cS S v m uf ut uc ub un _ (Kd.C_below HC.out HB.out) HCC.out (by rw [ref_walk (by have := HL.out; omega) _ _ _ _ _ (by have := HM.out; omega), HUN.out])).mono ?_
 rintro e w17 ⟨rfl, hb⟩
 have Rm' := Aside0.mk (row_below Rm.out hb)
 have Rs' := Aside0.mk (row_below Rs.out hb)
 have Ra' := Aside0.mk (row_below Ra.out hb)
 have Rb' := Aside0.mk (row_below Rb.out hb)
 have Rc' := Aside0.mk (row_below Rc.out hb)
 have Rd' := Aside0.mk (row_below Rd.out hb)
 have Rx' := Aside0.mk (row_below Rx.out hb)
 have Ry' := Aside0.mk (row_below Ry.out hb)
 have Ru' := Aside0.mk (row_below Ru.out hb)
 have HB' := Aside0.mk (below_step HB.out hb)
 clear hb HB Rm Rs Ra Rb Rc Rd Rx Ry Ru
 have HB := HB'
 have Rm := Rm'
 have Rs := Rs'
 have Ra := Ra'
 have Rb := Rb'
 have Rc := Rc'
 have Rd := Rd'
 have Rx := Rx'
 have Ry := Ry'
 have Ru := Ru'
 clear HB' Rm' Rs' Ra' Rb' Rc' Rd' Rx' Ry' Ru'
 have Rm' : Aside0 ((w17.alloc (.cells #[.int .i64 uf, .int .i64 ut, .int .i64 uc, .bool ub] 23)).heap[w.heap.size]? = _) := ⟨row_alloc Rm.out _⟩
 have Rs' : Aside0 ((w17.alloc (.cells #[.int .i64 uf, .int .i64 ut, .int .i64 uc, .bool ub] 23)).heap[w.heap.size + 1]? = _) := ⟨row_alloc Rs.out _⟩
 have Ra' : Aside0 ((w17.alloc (.cells #[.int .i64 uf, .int .i64 ut, .int .i64 uc, .bool ub] 23)).heap[ga]? = _) := ⟨row_alloc Ra.out _⟩
 have Rb' : Aside0 ((w17.alloc (.cells #[.int .i64 uf, .int .i64 ut, .int .i64 uc, .bool ub] 23)).heap[gb]? = _) := ⟨row_alloc Rb.out _⟩
 have Rc' : Aside0 ((w17.alloc (.cells #[.int .i64 uf, .int .i64 ut, .int .i64 uc, .bool ub] 23)).heap[gc]? = _) := ⟨row_alloc Rc.out _⟩
 have Rd' : Aside0 ((w17.alloc (.cells #[.int .i64 uf, .int .i64 ut, .int .i64 uc, .bool ub] 23)).heap[gd]? = _) := ⟨row_alloc Rd.out _⟩
 have Rx' : Aside0 ((w17.alloc (.cells #[.int .i64 uf, .int .i64 ut, .int .i64 uc, .bool ub] 23)).heap[gx]? = _) := ⟨row_alloc Rx.out _⟩
 have Ry' : Aside0 ((w17.alloc (.cells #[.int .i64 uf, .int .i64 ut, .int .i64 uc, .bool ub] 23)).heap[gy]? = _) := ⟨row_alloc Ry.out _⟩
 have Ru' : Aside0 ((w17.alloc (.cells #[.int .i64 uf, .int .i64 ut, .int .i64 uc, .bool ub] 23)).heap[gu]? = _) := ⟨row_alloc Ru.out _⟩
 have Rv' : Aside0 ((w17.alloc (.cells #[.int .i64 uf, .int .i64 ut, .int .i64 uc, .bool ub] 23)).heap[w17.heap.size]? = _) := ⟨heap_alloc_new _ _⟩
 have HB' : Aside0 (Below w.heap.size w (w17.alloc (.cells #[.int .i64 uf, .int .i64 ut, .int .i64 uc, .bool ub] 23))) := ⟨below_alloc' HB.out _ (by have := HB.out.size; omega)⟩
 go_upto_region 9 with fail
 clear HB Rm Rs Ra Rb Rc Rd Rx Ry Ru
 have HB := HB'
 have Rm := Rm'
 have Rs := Rs'
 have Ra := Ra'
 have Rb := Rb'
 have Rc := Rc'
 have Rd := Rd'
 have Rx := Rx'
 have Ry := Ry'
 have Ru := Ru'
 have Rv := Rv'
 clear HB' Rm' Rs' Ra' Rb' Rc' Rd' Rx' Ry' Ru' Rv'
 generalize hg_ : w17.heap.size = gv at *
 generalize (w17.alloc (.cells #[.int .i64 uf, .int .i64 ut, .int .i64 uc, .bool ub] 23)) = w18 at *
 clear hg_ w17
 clear HUN
 have HC9 := Aside0.mk (Kd.C_below HC.out HB.out)
 have HX1 : Aside0 (∀ w', Below w18.heap.size w18 w' → Calls Try.prog 14 #[.agg #[.int .i64 f, .int .i64 t, .int .i64 c, .bool d], .agg #[.int .i64 s0, .int .i64 s1, .int .i64 s2, .slice AS S.length cS]] w' fun e w'' => e = .returned (.int .i64 L) ∧ Below w'.heap.size w' w'') := ⟨fun w' hb => BLeft.move_Left.calls 3000 f t c d s0 s1 s2 AS cS S L w' (Kd.C_below HC9.out hb) HCC.out HL1.out⟩
 have HX2 : Aside0 (∀ w', Below w18.heap.size w18 w' → Calls Try.prog 32 #[.agg #[.int .i64 f, .int .i64 t, .int .i64 c, .bool d], .agg #[.int .i64 s0, .int .i64 s1, .int .i64 s2, .slice AS S.length cS]] w' fun e w'' => e = .returned (.int .i64 L) ∧ Below w'.heap.size w' w'') := ⟨fun w' hb => VLeft.roadsteadref16_Left.calls 3000 f t c d s0 s1 s2 AS cS S L w' (Kd.C_below HC9.out hb) HCC.out HL2.out⟩
 clear HL1 HL2 HC9 HC HCC HNN
 have hk_ : ∀ w', Below w18.heap.size w18 w' → w'.cell? ⟨w.heap.size, 0, none⟩ = some (.int .i64 f) ∧ w'.cell? ⟨w.heap.size, 1, none⟩ = some (.int .i64 t) ∧ w'.cell? ⟨w.heap.size, 2, none⟩ = some (.int .i64 c) ∧ w'.cell? ⟨w.heap.size, 3, none⟩ = some (.bool d) ∧ w'.cell? ⟨w.heap.size + 1, 0, none⟩ = some (.int .i64 s0) ∧ w'.cell? ⟨w.heap.size + 1, 1, none⟩ = some (.int .i64 s1) ∧ w'.cell? ⟨w.heap.size + 1, 2, none⟩ = some (.int .i64 s2) ∧ w'.cell? ⟨w.heap.size + 1, 3, none⟩ = some (.slice AS S.length cS) ∧ w'.cell? ⟨ga, 0, none⟩ = some (.int .i64 bf) ∧ w'.cell? ⟨ga, 1, none⟩ = some (.int .i64 bt) ∧ w'.cell? ⟨ga, 2, none⟩ = some (.int .i64 bc) ∧ w'.cell? ⟨ga, 3, none⟩ = some (.bool bb) ∧ w'.cell? ⟨gb, 0, none⟩ = some (.int .i64 bf) ∧ w'.cell? ⟨gb, 1, none⟩ = some (.int .i64 bt) ∧ w'.cell? ⟨gb, 2, none⟩ = some (.int .i64 bc) ∧ w'.cell? ⟨gb, 3, none⟩ = some (.bool bb) ∧ w'.cell? ⟨gc, 0, none⟩ = some (.int .i64 tf) ∧ w'.cell? ⟨gc, 1, none⟩ = some (.int .i64 tt) ∧ w'.cell? ⟨gc, 2, none⟩ = some (.int .i64 tc) ∧ w'.cell? ⟨gc, 3, none⟩ = some (.bool tb) ∧ w'.cell? ⟨gd, 0, none⟩ = some (.int .i64 tf) ∧ w'.cell? ⟨gd, 1, none⟩ = some (.int .i64 tt) ∧ w'.cell? ⟨gd, 2, none⟩ = some (.int .i64 tc) ∧ w'.cell? ⟨gd, 3, none⟩ = some (.bool tb) ∧ w'.cell? ⟨gx, 0, none⟩ = some (.int .i64 sf) ∧ w'.cell? ⟨gx, 1, none⟩ = some (.int .i64 st) ∧ w'.cell? ⟨gx, 2, none⟩ = some (.int .i64 sc) ∧ w'.cell? ⟨gx, 3, none⟩ = some (.bool sb) ∧ w'.cell? ⟨gy, 0, none⟩ = some (.int .i64 sf) ∧ w'.cell? ⟨gy, 1, none⟩ = some (.int .i64 st) ∧ w'.cell? ⟨gy, 2, none⟩ = some (.int .i64 sc) ∧ w'.cell? ⟨gy, 3, none⟩ = some (.bool sb) ∧ w'.cell? ⟨gu, 0, none⟩ = some (.int .i64 uf) ∧ w'.cell? ⟨gu, 1, none⟩ = some (.int .i64 ut) ∧ w'.cell? ⟨gu, 2, none⟩ = some (.int .i64 uc) ∧ w'.cell? ⟨gu, 3, none⟩ = some (.bool ub) ∧ w'.cell? ⟨gv, 0, none⟩ = some (.int .i64 uf) ∧ w'.cell? ⟨gv, 1, none⟩ = some (.int .i64 ut) ∧ w'.cell? ⟨gv, 2, none⟩ = some (.int .i64 uc) ∧ w'.cell? ⟨gv, 3, none⟩ = some (.bool ub) ∧ Below w18.heap.size w18 w' := fun w' hb => ⟨row_cell Rm.out hb 0 _ rfl, row_cell Rm.out hb 1 _ rfl, row_cell Rm.out hb 2 _ rfl, row_cell Rm.out hb 3 _ rfl, row_cell Rs.out hb 0 _ rfl, row_cell Rs.out hb 1 _ rfl, row_cell Rs.out hb 2 _ rfl, row_cell Rs.out hb 3 _ rfl, row_cell Ra.out hb 0 _ rfl, row_cell Ra.out hb 1 _ rfl, row_cell Ra.out hb 2 _ rfl, row_cell Ra.out hb 3 _ rfl, row_cell Rb.out hb 0 _ rfl, row_cell Rb.out hb 1 _ rfl, row_cell Rb.out hb 2 _ rfl, row_cell Rb.out hb 3 _ rfl, row_cell Rc.out hb 0 _ rfl, row_cell Rc.out hb 1 _ rfl, row_cell Rc.out hb 2 _ rfl, row_cell Rc.out hb 3 _ rfl, row_cell Rd.out hb 0 _ rfl, row_cell Rd.out hb 1 _ rfl, row_cell Rd.out hb 2 _ rfl, row_cell Rd.out hb 3 _ rfl, row_cell Rx.out hb 0 _ rfl, row_cell Rx.out hb 1 _ rfl, row_cell Rx.out hb 2 _ rfl, row_cell Rx.out hb 3 _ rfl, row_cell Ry.out hb 0 _ rfl, row_cell Ry.out hb 1 _ rfl, row_cell Ry.out hb 2 _ rfl, row_cell Ry.out hb 3 _ rfl, row_cell Ru.out hb 0 _ rfl, row_cell Ru.out hb 1 _ rfl, row_cell Ru.out hb 2 _ rfl, row_cell Ru.out hb 3 _ rfl, row_cell Rv.out hb 0 _ rfl, row_cell Rv.out hb 1 _ rfl, row_cell Rv.out hb 2 _ rfl, row_cell Rv.out hb 3 _ rfl, hb⟩
 clear Rm Rs Ra Rb Rc Rd Rx Ry Ru Rv
 go_region_held3 (fun w' => w'.cell? ⟨w.heap.size, 0, none⟩ = some (.int .i64 f) ∧ w'.cell? ⟨w.heap.size, 1, none⟩ = some (.int .i64 t) ∧ w'.cell? ⟨w.heap.size, 2, none⟩ = some (.int .i64 c) ∧ w'.cell? ⟨w.heap.size, 3, none⟩ = some (.bool d) ∧ w'.cell? ⟨w.heap.size + 1, 0, none⟩ = some (.int .i64 s0) ∧ w'.cell? ⟨w.heap.size + 1, 1, none⟩ = some (.int .i64 s1) ∧ w'.cell? ⟨w.heap.size + 1, 2, none⟩ = some (.int .i64 s2) ∧ w'.cell? ⟨w.heap.size + 1, 3, none⟩ = some (.slice AS S.length cS) ∧ w'.cell? ⟨ga, 0, none⟩ = some (.int .i64 bf) ∧ w'.cell? ⟨ga, 1, none⟩ = some (.int .i64 bt) ∧ w'.cell? ⟨ga, 2, none⟩ = some (.int .i64 bc) ∧ w'.cell? ⟨ga, 3, none⟩ = some (.bool bb) ∧ w'.cell? ⟨gb, 0, none⟩ = some (.int .i64 bf) ∧ w'.cell? ⟨gb, 1, none⟩ = some (.int .i64 bt) ∧ w'.cell? ⟨gb, 2, none⟩ = some (.int .i64 bc) ∧ w'.cell? ⟨gb, 3, none⟩ = some (.bool bb) ∧ w'.cell? ⟨gc, 0, none⟩ = some (.int .i64 tf) ∧ w'.cell? ⟨gc, 1, none⟩ = some (.int .i64 tt) ∧ w'.cell? ⟨gc, 2, none⟩ = some (.int .i64 tc) ∧ w'.cell? ⟨gc, 3, none⟩ = some (.bool tb) ∧ w'.cell? ⟨gd, 0, none⟩ = some (.int .i64 tf) ∧ w'.cell? ⟨gd, 1, none⟩ = some (.int .i64 tt) ∧ w'.cell? ⟨gd, 2, none⟩ = some (.int .i64 tc) ∧ w'.cell? ⟨gd, 3, none⟩ = some (.bool tb) ∧ w'.cell? ⟨gx, 0, none⟩ = some (.int .i64 sf) ∧ w'.cell? ⟨gx, 1, none⟩ = some (.int .i64 st) ∧ w'.cell? ⟨gx, 2, none⟩ = some (.int .i64 sc) ∧ w'.cell? ⟨gx, 3, none⟩ = some (.bool sb) ∧ w'.cell? ⟨gy, 0, none⟩ = some (.int .i64 sf) ∧ w'.cell? ⟨gy, 1, none⟩ = some (.int .i64 st) ∧ w'.cell? ⟨gy, 2, none⟩ = some (.int .i64 sc) ∧ w'.cell? ⟨gy, 3, none⟩ = some (.bool sb) ∧ w'.cell? ⟨gu, 0, none⟩ = some (.int .i64 uf) ∧ w'.cell? ⟨gu, 1, none⟩ = some (.int .i64 ut) ∧ w'.cell? ⟨gu, 2, none⟩ = some (.int .i64 uc) ∧ w'.cell? ⟨gu, 3, none⟩ = some (.bool ub) ∧ w'.cell? ⟨gv, 0, none⟩ = some (.int .i64 uf) ∧ w'.cell? ⟨gv, 1, none⟩ = some (.int .i64 ut) ∧ w'.cell? ⟨gv, 2, none⟩ = some (.int .i64 uc) ∧ w'.cell? ⟨gv, 3, none⟩ = some (.bool ub) ∧ Below w18.heap.size w18 w') (first | exact hk_ _ (by assumption) | exact hk_ _ (Below.refl _ _).drew | (go_split_ands; exact hk_ _ (by assumption)) | (go_split_ands; exact hk_ _ (Below.drew (by assumption)))) (first | (go_at_call 14; go_split_ands; refine (HX1.out _ (by assumption)).mono ?_; rintro e w' ⟨rfl, hb⟩; have hbb := below_step (by assumption) hb; clear hb) | (go_at_call 32; go_split_ands; refine (HX2.out _ (by assumption)).mono ?_; rintro e w' ⟨rfl, hb⟩; have hbb := below_step (by assumption) hb; clear hb))
 go_wp2
 go_ret
 exact ⟨by first | rfl | simp, below_step HB.out (by assumption)⟩
end Go.Proofs.Ytajfefjmfelnbaa
