/- move.ids and the function it is handed: the walks. -/
import Derived.Test.YtajfefjmfelnbaaSort
namespace Go.Proofs.Ytajfefjmfelnbaa
open Go.RowKit Go.Proofs.YtajfefjmfelnbaaW.PrintWords Go.Proofs.YtajfefjmfelnbaaW.PrintLast Go.Proofs.YtajfefjmfelnbaaW.PrintMore BState
set_option linter.unusedVariables false
theorem cell_of_row (w : World) (g : Nat) (cs : Array Value) (t : TypeId) (fr : Nat × Nat) (i : Nat) (hg : w.heap[g]? = some (.cells cs t fr)) : w.cell? ⟨g, i, none⟩ = cs[i]? := by
 simp [World.cell?, hg]
theorem may.calls (g : Nat) (f t c : Int) (b : Bool) (n : Int) (w : World) (hm : w.heap[g]? = some (.cells #[.int .i64 f, .int .i64 t, .int .i64 c, .bool b] 23 (0, 0))) :
 Calls Try.prog 26 #[.int .i64 n, .pointer (some ⟨g, 0, none⟩)] w fun e w' => e = .returned (.bool (decide (c < n) != b)) ∧ w = w' := by
 have h2 := cell_of_row w g _ _ _ 2 hm
 have h3 := cell_of_row w g _ _ _ 3 hm
 simp only [List.getElem?_toArray, List.getElem?_cons_succ, List.getElem?_cons_zero] at h2 h3
 have HM := Aside0.mk hm
 clear hm
 go_enter Try.func26, Try.ntmps26
 go_wp2
 go_ret
 exact ⟨by first | rfl | simp, rfl⟩

theorem info3 : (Try.prog.info? 3).map (fun i => (i.zero, i.size, i.bytes)) = some (some (.int .i64 0), 1, 8) := by kernel_rfl
/-- may this one be? -/
def mayB (c : Int) (b : Bool) (id : Int) : Bool := decide (0 ≤ id) && (decide (c < id) != b)
def pick (c : Int) (b : Bool) (l : List S46) : List Int := (l.map (·.f0)).filter (mayB c b)
theorem pick_le (c : Int) (b : Bool) (l : List S46) : (pick c b l).length ≤ l.length := by
 unfold pick
 refine Nat.le_trans (List.length_filter_le _ _) ?_
 simp
theorem pick_snoc (c : Int) (b : Bool) (l : List S46) (i : Nat) (h : i < l.length) : pick c b (l.take (i + 1)) = pick c b (l.take i) ++ if mayB c b (rd_T46 l i).f0 = true then [(rd_T46 l i).f0] else [] := by
 unfold pick
 rw [List.take_add_one, List.map_append, List.filter_append]
 have e : l[i]?.toList = [rd_T46 l i] := by simp [rd_T46, List.getD, h]
 rw [e]
 simp only [List.map_cons, List.map_nil, List.filter_cons, List.filter_nil]
set_option maxRecDepth 100000 in
set_option maxHeartbeats 2000000 in
theorem move_ids.calls (g : Nat) (f t mc : Int) (mb : Bool) (c0 c1 c2 : Int) (A : Option Addr) (cap : Nat) (l : List S46) (w : World) (hm : w.heap[g]? = some (.cells #[.int .i64 f, .int .i64 t, .int .i64 mc, .bool mb] 23 (0, 0)))
 (hC : Kd.C k46 w A l.length l) (hc : l.length ≤ cap) (hn : l.length ≤ 1000000) :
 Calls Try.prog 25 #[.agg #[.int .i64 c0, .int .i64 c1, .int .i64 c2, .slice A l.length cap], .func (.func 26) #[] #[.pointer (some ⟨g, 0, none⟩)]] w fun e w' =>
  ∃ v, e = .returned v ∧ Kd.R (Kd.int .i64) 3 w' w.heap.size (fun _ => True) v (sorted (pick mc mb l)) ∧ Below w.heap.size w w' := by
 have HM := Aside0.mk hm
 have HC := Aside0.mk hC
 have HCC := Aside0.mk hc
 clear hm hC hc
 have hu34 := Try.underlying34
 have hu46 := Try.underlying46
 go_enter Try.func25, Try.ntmps25
 go_wp2
 have HB1 := Aside0.mk ((Below.refl w.heap.size w).alloc (Nat.le_refl _) (.cells #[.int .i64 c0, .int .i64 c1, .int .i64 c2, .slice A l.length cap] 34))
 generalize hW1 : w.alloc (.cells #[.int .i64 c0, .int .i64 c1, .int .i64 c2, .slice A l.length cap] 34) = w1 at *
 clear hW1
 go_loopw [5, 11] (fun v5 v11 wr => ∃ i : Nat, i ≤ l.length ∧ v11 = .int .i64 i ∧ Aside0 (Kd.R (Kd.int .i64) 3 wr w.heap.size (fun _ => True) v5 (pick mc mb (l.take i))) ∧ Aside0 (Below w.heap.size w wr)) (fun _ v11 _ => l.length - (intOf v11).toNat)
 case atStart => exact ⟨0, by omega, rfl, ⟨by simpa [pick] using Kd.R_nil _ _ _ _ _⟩, HB1⟩
 case round =>
  obtain ⟨i, hi, rfl, HO, HB⟩ := hrel
  by_cases hlt : i < l.length
  ·obtain ⟨ad, A7, c7, A8, c8, rfl, hx0, hx1, hx2, hx3, hx4, hx5, hx6, hx7, hx8, hx9, hx10⟩ := at_T46 (Kd.C_below HC.out HB.out) (i : Int) (by omega) (by omega)
   have hsn := Aside0.mk (pick_snoc mc mb l i hlt)
   generalize rd_T46 l (i : Int) = x at *
   simp only [Int.toNat_natCast] at hx0 hx1 hx2 hx3 hx4 hx5 hx6 hx7 hx8 hx9
   have HGT : Aside0 (wr.heap[g]? = some (.cells #[.int .i64 f, .int .i64 t, .int .i64 mc, .bool mb] 23 (0, 0))) := ⟨(HB.out.block _ (Array.getElem?_eq_some_iff.1 HM.out).1).trans HM.out⟩
   clear hx10
   go_upto_region 5 with (fail)
   have HX0 : Aside0 ((wr.alloc (.cells #[.int .i64 x.f0, .string x.f1, .string x.f2, .string x.f3, .int .i64 x.f4, .int .i64 x.f5, .int .i64 x.f6, .slice A7 x.f7.length c7, .slice A8 x.f8.length c8, .string x.f9] 46)).cell? ⟨wr.heap.size, 0, none⟩ = some (.int .i64 x.f0)) := ⟨by rw [cell_of_row _ _ _ _ _ _ (heap_alloc_new _ _)]; rfl⟩
   have HG5 := Aside0.mk ((_root_.Go.heap_alloc_old wr (.cells #[.int .i64 x.f0, .string x.f1, .string x.f2, .string x.f3, .int .i64 x.f4, .int .i64 x.f5, .int .i64 x.f6, .slice A7 x.f7.length c7, .slice A8 x.f8.length c8, .string x.f9] 46) (Array.getElem?_eq_some_iff.1 HGT.out).1).trans HGT.out)
   have HB5 := Aside0.mk (HB.out.alloc HB.out.size (.cells #[.int .i64 x.f0, .string x.f1, .string x.f2, .string x.f3, .int .i64 x.f4, .int .i64 x.f5, .int .i64 x.f6, .slice A7 x.f7.length c7, .slice A8 x.f8.length c8, .string x.f9] 46))
   have HO5 := Aside0.mk (Kd.R_alloc HO.out (.cells #[.int .i64 x.f0, .string x.f1, .string x.f2, .string x.f3, .int .i64 x.f4, .int .i64 x.f5, .int .i64 x.f6, .slice A7 x.f7.length c7, .slice A8 x.f8.length c8, .string x.f9] 46))
   clear hx0 hx1 hx2 hx3 hx4 hx5 hx6 hx7 hx8 hx9 HGT HB HO
   generalize wr.alloc (.cells #[.int .i64 x.f0, .string x.f1, .string x.f2, .string x.f3, .int .i64 x.f4, .int .i64 x.f5, .int .i64 x.f6, .slice A7 x.f7.length c7, .slice A8 x.f8.length c8, .string x.f9] 46) = w5 at *
   generalize wr.heap.size = gx at *
   have hx0 := HX0.out
   by_cases h0 : 0 ≤ x.f0
   ·have hd0 : decide (0 ≤ x.f0) = true := decide_eq_true h0
    cases hm : (decide (mc < x.f0) != mb) with
    | true =>
     have hmay : mayB mc mb x.f0 = true := by unfold mayB; rw [hm, hd0]; rfl
     have HSN : Aside0 (pick mc mb (l.take (i + 1)) = pick mc mb (l.take i) ++ [x.f0]) := ⟨by rw [hsn.out, if_pos hmay]⟩
     have hpl := pick_le mc mb (l.take i)
     have hpl2 : (pick mc mb (l.take i)).length ≤ 1000000 := by rw [List.length_take] at hpl; omega
     have HM2 := Aside0.mk hm
     clear hsn hmay hpl hm
     generalize pick mc mb (l.take i) = P at *
     go_wp2_with (first | (go_at_call 26; refine (may.calls g f t mc mb x.f0 w5 HG5.out).mono ?_; rintro e w' ⟨rfl, rfl⟩; rw [HM2.out]) | ((with_reducible refine gate_builtin (b := .append) (xs := #[.tmp 24, .tmp 27]) rfl ?_); at_builtin; refine Kd.R_append (Kd.int .i64) (w0 := w) w.heap.size rfl (.tmp 24) (.tmp 27) 43 3 (.int .i64 0) 8 rfl Try.underlying43 info3 rfl (by decide) (by omega) u5 P x.f0 [.int .i64 x.f0] (fun _ => True) (fun _ => False) rfl rfl ?aP (fun _ hk => hk.elim) ?aF ?aO ?aB ?aS ?aL ?_; (case aP => exact rfl); (case aB => exact HB5.out); (case aF => exact (fun _ _ => trivial)); (case aO => exact HO5.out); (case aS => exact HB5.out.size); (case aL => omega); intro v3 w6 ho hb hg hat; have HO6 := Aside0.mk ho; have HB6 := Aside0.mk hb; clear ho hb hg hat))
     go_roundw
     case rel => exact ⟨i + 1, by omega, by go_num, ⟨by rw [HSN.out]; exact HO6.out⟩, HB6⟩
     case measure => simp [intOf]; omega
    | false =>
     have hmay : ¬ mayB mc mb x.f0 = true := by unfold mayB; rw [hm, hd0]; simp
     have HSN : Aside0 (pick mc mb (l.take (i + 1)) = pick mc mb (l.take i)) := ⟨by rw [hsn.out, if_neg hmay, List.append_nil]⟩
     have HM2 := Aside0.mk hm
     clear hsn hmay hm
     go_wp2_with (go_at_call 26; refine (may.calls g f t mc mb x.f0 w5 HG5.out).mono ?_; rintro e w' ⟨rfl, rfl⟩; rw [HM2.out])
     go_roundw
     case rel => exact ⟨i + 1, by omega, by go_num, ⟨by rw [HSN.out]; exact HO5.out⟩, HB5⟩
     case measure => simp [intOf]; omega
   ·have hd0 : decide (0 ≤ x.f0) = false := decide_eq_false h0
    have hmay : ¬ mayB mc mb x.f0 = true := by unfold mayB; rw [hd0]; simp
    have HSN : Aside0 (pick mc mb (l.take (i + 1)) = pick mc mb (l.take i)) := ⟨by rw [hsn.out, if_neg hmay, List.append_nil]⟩
    clear hsn hmay
    go_wp2
    go_roundw
    case rel => exact ⟨i + 1, by omega, by go_num, ⟨by rw [HSN.out]; exact HO5.out⟩, HB5⟩
    case measure => simp [intOf]; omega
  ·obtain rfl : i = l.length := by omega
   rw [List.take_length] at HO
   have hpl := pick_le mc mb l
   go_wp2_with (go_at_call 36; refine (sort_R _ _ _ _ HO.out (by omega)).mono ?_; rintro e w' ⟨rfl, hs, hbb⟩; have HS := Aside0.mk hs; have HBB := Aside0.mk (hbb _ HB.out); clear hs hbb)
   go_ret
   exact ⟨_, rfl, HS.out, HBB.out⟩
end Go.Proofs.Ytajfefjmfelnbaa
