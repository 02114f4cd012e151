/- roadsteadlaw10.Sub of the given program: its first region, in each order that Go may take. -/
import Derived.Test.YtajfefjmfelnbaaQuiet
import Derived.Test.YtajfefjmfelnbaaStep
import Derived.Test.YtajfefjmfelnbaaBStatex1
import Derived.Test.YtajfefjmfelnbaaBStatex2
namespace Go.Proofs.Ytajfefjmfelnbaa
open Go.RowKit Go.Proofs.YtajfefjmfelnbaaW.PrintWords Go.Proofs.YtajfefjmfelnbaaW.PrintLast Go.Proofs.YtajfefjmfelnbaaW.PrintMore BState
set_option linter.unusedVariables false
set_option linter.unusedSimpArgs false
theorem pS (a : Act) (i : Tmp) (v : Value) : a.put (some i) v = { a with tmps := a.tmps.setIfInBounds i v } := rfl
theorem pN (a : Act) (v : Value) : a.put none v = a := rfl
theorem sB.{u} : type_of% (@List.setIfInBounds_toArray.{u}) := @List.setIfInBounds_toArray
theorem sZ.{u} : type_of% (@List.set_cons_zero.{u}) := @List.set_cons_zero
theorem sS.{u} : type_of% (@List.set_cons_succ.{u}) := @List.set_cons_succ
def ba (n m : Nat) : Array Bool := ((List.range n).map fun i => m.testBit i).toArray
theorem size46 : (Try.prog.info? 46).map (·.size) = some 10 := by kernel_rfl
theorem one46 (a b c d : Int) (s t u v : ByteArray) : (#[.int .i64 a, .string s, .string t, .string u, .int .i64 b, .int .i64 c, .int .i64 d, .slice none 0 0, .slice none 0 0, .string v] : Array Value).all (·.oneCell') = true := by simp [Value.oneCell']
theorem cell_setRow_other (w : World) (g : Nat) (cs : Array Value) (p : Addr) (h : p.block ≠ g) : (w.setRow g cs).cell? p = w.cell? p := by
 unfold World.cell?
 rw [setRow_other _ _ _ _ h]
theorem restart_ {P : Program} {ops : Array Oper} {Q : Exit → Act → World → Prop} {md : Region.Mode} {S1 S2 : World → Prop} (h12 : ∀ w', S2 w' → S1 w') : ∀ {fuel : Nat} {l : Array Bool} {a : Act} {w : World} (_h2 : S2 w) (_h : wpAnyLast P md ops Q S2 [] fuel l a w), wpAnyLast P md ops Q S1 [] fuel l a w
 | 0, _, _, _, _, h => h
 | fuel + 1, l, a, w, h2, h => ⟨h.1, fun i hi => wpOp_mono (fun a' w' h' => ⟨fun _ _ => h12 _ (h'.1 (by simp) h2), restart_ h12 (h'.1 (by simp) h2) h'.2⟩) (h.2 i hi)⟩
theorem g_quiet (A : Option Addr) (c : Nat) (l : List Int) (i r : Int) (w : World) (hC : Kd.C (Kd.int .u8) w A l.length l) (hc : l.length ≤ c) (h : roadsteadlaw10_g.f l i = some r) :
 Calls Try.prog 22 #[.slice A l.length c, .int .i64 i] w fun e w' => e = .returned (.int .i64 r) ∧ w' = w := by
 unfold roadsteadlaw10_g.f at h
 have HC := Aside0.mk hC
 have HK := Aside0.mk hc
 clear hC hc
 by_cases h1 : i < (l.length : Int)
 ·rw [if_pos h1] at h
  by_cases h0 : 0 ≤ i
  ·rw [if_pos h0] at h
   have hr := Option.some.inj h
   obtain ⟨ad, rfl, hx⟩ := Kd.at_int HC.out i h0 h1
   have HR := Aside0.mk hr
   clear h hr
   go_enter Try.func22, Try.ntmps22
   go_wp2
   go_ret
   exact ⟨by rw [← HR.out]; rfl, rfl⟩
  ·rw [if_neg h0] at h
   cases h
 ·rw [if_neg h1] at h
  have hr := Option.some.inj h
  have HR := Aside0.mk hr
  have h1b : decide (i < (l.length : Int)) = false := decide_eq_false h1
  clear h hr
  go_enter Try.func22, Try.ntmps22
  go_wp2
  go_ret
  exact ⟨by rw [← HR.out]; rfl, rfl⟩
def vR (a1 a3 t2 t3 t4 : Int) (tx s1 s2 : ByteArray) : Array Value := #[.int .i64 a1, .string ((⟨#[110]⟩ : ByteArray) ++ tx), .string s1, .string s2, .int .i64 (wrap64 (1 + (wrap64 (t2 * 3)))), .int .i64 (wrap64 (1 + (Int.tmod t3 9))), .int .i64 (Int.tmod t4 a3), .slice none 0 0, .slice none 0 0, .string ⟨#[]⟩]
def sub_T1 : Bool × List (List Nat × List Nat) := (true, [([], []), ([], []), ([1], [1]), ([2, 2], [2]), ([3], [3]), ([], []), ([], []), ([6, 3], [6]), ([7], [7]), ([5, 8], [5, 8]), ([9], [9]), ([], []), ([], []), ([12, 7], [12]), ([13], [13]), ([14], [14]), ([11, 15], [11, 15]), ([16], [16]), ([], []), ([18, 13], [18]), ([19], [19]), ([20], [20]), ([], []), ([22, 19], [22]), ([23], [23]), ([24], [24]), ([], []), ([26, 23], [26]), ([], []), ([27, 28], [27, 28]), ([0, 4, 10, 17, 21, 25, 29], [0, 4, 10, 17, 21, 25, 29]), ([], []), ([31, 30, 27, 0, 1, 2, 3, 4, 5, 6, 7, 8, 9, 10, 11, 12, 13, 14, 15, 16, 17, 18, 19, 20, 21, 22, 23, 24, 25, 26, 27, 28, 29, 30, 31], [30, 31])])
def sub_B1 : List Nat := [0, 0, 2, 6, 14, 0, 0, 78, 206, 494, 1006, 0, 0, 4302, 12494, 28878, 63694, 129230, 0, 274638, 798926, 1847502, 0, 4993230, 13381838, 30159054, 0, 80490702, 0, 483143886, 1073741823, 0, 4294967295]
theorem sub_tab1 : rtab .any (opsOf Try.f24 1) = sub_T1 := by kernel_rfl
theorem sub_bits1 : waitsOk sub_T1.2 sub_B1 = true := by kernel_rfl
set_option maxRecDepth 100000 in
set_option maxHeartbeats 8000000 in
theorem sub_r1 {Q : Exit → Act → World → Prop} (A0 : Option Addr) (c0 : Nat) (l0 : List Int) (k : Nat) (a1 a2 a3 t0 t1 t2 t3 t4 : Int) (tx s1 s2 : ByteArray) (n1 n2 g8 : Nat) (w : World)
 (HR : Aside0 (Kd.C (Kd.int .u8) w A0 l0.length l0)) (HC : Aside0 (l0.length ≤ c0)) (H0 : Aside0 (roadsteadlaw10_g.f l0 0 = some t0)) (HX : Aside0 (roadsteadlaw10_text.f k t0 19 = some tx)) (H1 : Aside0 (roadsteadlaw10_g.f l0 1 = some t1)) (H2 : Aside0 (roadsteadlaw10_g.f l0 2 = some t2)) (H3 : Aside0 (roadsteadlaw10_g.f l0 3 = some t3)) (H4 : Aside0 (roadsteadlaw10_g.f l0 4 = some t4))
 (hn1 : Int.tmod t1 4 = (n1 : Int)) (hl1 : n1 < 4) (hs1 : (#[.string (⟨#[35]⟩ : ByteArray), .string (⟨#[97]⟩ : ByteArray), .string (⟨#[97, 47, 43]⟩ : ByteArray), .string (⟨#[98, 47, 35]⟩ : ByteArray)] : Array Value)[n1]? = some (.string s1)) (hn2 : Int.tmod (wrap64 (Int.tdiv t1 4)) 3 = (n2 : Int)) (hl2 : n2 < 3) (hs2 : (#[.string ⟨#[]⟩, .string (⟨#[97, 61, 49]⟩ : ByteArray), .string (⟨#[97, 61, 49, 44, 98, 61, 50]⟩ : ByteArray)] : Array Value)[n2]? = some (.string s2))
 (ha3 : (a3 == 0) = false) (hsz : (1 + tx.size ≤ 9223372036854775807) = True) (hsz2 : (9223372036854775807 < 1 + tx.size) = False) (ha32 : (a3 = 0) = False) (hi1 : ((n1 : Int) < 4) = True) (hi2 : ((n2 : Int) < 3) = True)
 (hP : ∀ c (a : Act) (d : Option Tmp) (v : Value) (w : World), Q (.panic c) (a.put d v) w → Q (.panic c) a w)
 (HQ : Aside0 (∀ (v13 v14 v15 v16 v17 v18 v19 v20 v21 v22 v23 v24 v25 v26 v27 v28 v29 v30 v31 v32 v33 v34 v35 v36 v37 v38 v39 v40 v41 v42 v43 : Value) (g : Nat) (w' : World), w.heap.size ≤ g → Below w.heap.size w w' → w'.heap[g]? = some (.cells #[.int .i64 a1, .string ((⟨#[110]⟩ : ByteArray) ++ tx), .string s1, .string s2, .int .i64 (wrap64 (1 + (wrap64 (t2 * 3)))), .int .i64 (wrap64 (1 + (Int.tmod t3 9))), .int .i64 (Int.tmod t4 a3), .slice none 0 0, .slice none 0 0, .string ⟨#[]⟩] 46 (0, 0)) → Q .normal { tmps := #[.slice A0 l0.length c0, .int .i64 a1, .int .i64 a2, .int .i64 a3, undef, undef, undef, undef, .pointer (some ⟨g8, 0, none⟩), .pointer (some ⟨g, 0, none⟩), undef, undef, undef, v13, v14, v15, v16, v17, v18, v19, v20, v21, v22, v23, v24, v25, v26, v27, v28, v29, v30, v31, v32, v33, v34, v35, v36, v37, v38, v39, v40, v41, v42, v43, undef, undef, undef, undef, undef, undef, undef, undef, undef, undef, undef, undef, undef, undef, undef, undef, undef, undef, undef, undef, undef, undef, undef, undef, undef, undef, undef, undef, undef, undef, undef, undef, undef, undef, undef, undef, undef, undef, undef, undef, undef, undef, undef, undef, undef, undef, undef, undef, undef, undef, undef, undef, undef, undef, undef, undef, undef, undef, undef, undef, undef, undef, undef, undef, undef, undef, undef, undef, undef, undef, undef, undef, undef, undef, undef, undef, undef, undef, undef, undef, undef, undef, undef, undef, undef, undef, undef, undef, undef, undef, undef, undef, undef, undef, undef, undef, undef, undef, undef, undef, undef, undef, undef, undef, undef, undef, undef, undef, undef, undef, undef, undef, undef, undef, undef, undef, undef, undef, undef, undef, undef, undef, undef, undef, undef, undef, undef, undef, undef, undef, undef, undef, undef, undef, undef, undef, undef, undef, undef, undef, undef, undef, undef, undef, undef, undef, undef, undef, undef, undef, undef, undef], defers := [] } w')) :
 (Code.region 1 (opsOf Try.f24 1) true).wp Try.prog Q { tmps := #[.slice A0 l0.length c0, .int .i64 a1, .int .i64 a2, .int .i64 a3, undef, undef, undef, undef, .pointer (some ⟨g8, 0, none⟩), undef, undef, undef, undef, undef, undef, undef, undef, undef, undef, undef, undef, undef, undef, undef, undef, undef, undef, undef, undef, undef, undef, undef, undef, undef, undef, undef, undef, undef, undef, undef, undef, undef, undef, undef, undef, undef, undef, undef, undef, undef, undef, undef, undef, undef, undef, undef, undef, undef, undef, undef, undef, undef, undef, undef, undef, undef, undef, undef, undef, undef, undef, undef, undef, undef, undef, undef, undef, undef, undef, undef, undef, undef, undef, undef, undef, undef, undef, undef, undef, undef, undef, undef, undef, undef, undef, undef, undef, undef, undef, undef, undef, undef, undef, undef, undef, undef, undef, undef, undef, undef, undef, undef, undef, undef, undef, undef, undef, undef, undef, undef, undef, undef, undef, undef, undef, undef, undef, undef, undef, undef, undef, undef, undef, undef, undef, undef, undef, undef, undef, undef, undef, undef, undef, undef, undef, undef, undef, undef, undef, undef, undef, undef, undef, undef, undef, undef, undef, undef, undef, undef, undef, undef, undef, undef, undef, undef, undef, undef, undef, undef, undef, undef, undef, undef, undef, undef, undef, undef, undef, undef, undef, undef, undef, undef, undef, undef, undef, undef, undef, undef, undef, undef, undef, undef, undef, undef], defers := [] } w := by
 have hu46 := Try.underlying46
 unfold opsOf Try.f24
 simp only [Option.bind_some, opsIn, Nat.reduceBEq, Bool.false_eq_true, if_false, if_true, beq_self_eq_true, Option.getD_some]
 have LA_ : ∀ W : World, (W.alloc (.cells #[.string (⟨#[35]⟩ : ByteArray), .string (⟨#[97]⟩ : ByteArray), .string (⟨#[97, 47, 43]⟩ : ByteArray), .string (⟨#[98, 47, 35]⟩ : ByteArray)] 9)).cell? ⟨W.heap.size, n1, none⟩ = some (.string s1) := fun W => by rw [cell_of_row _ _ _ _ _ _ (heap_alloc_new _ _)]; exact hs1
 have LB_ : ∀ W : World, (W.alloc (.cells #[.string ⟨#[]⟩, .string (⟨#[97, 61, 49]⟩ : ByteArray), .string (⟨#[97, 61, 49, 44, 98, 61, 50]⟩ : ByteArray)] 9)).cell? ⟨W.heap.size, n2, none⟩ = some (.string s2) := fun W => by rw [cell_of_row _ _ _ _ _ _ (heap_alloc_new _ _)]; exact hs2
 have HLA := Aside0.mk LA_
 have HLB := Aside0.mk LB_
 clear hs1 hs2 LA_ LB_
 refine start_ (n := 33) (S := fun w' => Below w.heap.size w w') (ds := []) (ba 33 0) (by kernel_rfl) rfl rfl ((Below.refl _ _).drew) (fun hHeld => ?_); refine with_tabW sub_tab1 sub_bits1 (fun HT_ HW_ => ?_)
 have HB0 := Aside0.mk hHeld
 clear hHeld
 generalize w.drew = w0 at *
 refine pure_ (i := 0) (N := some 13) (v := ?_) (a' := ?_) (ba 33 1) rfl rfl (any_of HT_.out (by kernel_rfl)) (fun _ _ _ h => hP _ _ _ _ _ h) (Or.inl ⟨by rfl, ?_⟩) ?_ ?_
 rotate_left
 ·intro w'; go_simp; with_reducible rfl
 rotate_left
 ·simp only [pS, pN, sB, sZ, sS, i64_w, i32_w]; rfl
 refine pure_ (i := 1) (N := some 14) (v := ?_) (a' := ?_) (ba 33 3) rfl rfl (any_of HT_.out (by kernel_rfl)) (fun _ _ _ h => hP _ _ _ _ _ h) (Or.inl ⟨by rfl, ?_⟩) ?_ ?_
 rotate_left
 ·intro w'; go_simp; with_reducible rfl
 rotate_left
 ·simp only [pS, pN, sB, sZ, sS, i64_w, i32_w]; rfl
 refine quiet_ (i := 2) (N := some 15) (a' := ?_) (ba 33 7) rfl rfl (take_ofW HT_.out HW_.out (by kernel_rfl)) (fun _ _ _ h => hP _ _ _ _ _ h) (quiet_call Try.func22 (by kernel_rfl) rfl #[.slice A0 l0.length c0, .int .i64 0] (by rfl) rfl (by (try simp only [List.map_toArray, List.map_cons, List.map_nil]); first | done | rfl) (fun w' hS => g_quiet _ _ l0 0 t0 w' (Kd.C_below HR.out (hS)) HC.out H0.out)) (HB0.out) ?_ ?_
 rotate_left
 ·simp only [pS, pN, sB, sZ, sS, i64_w, i32_w]; rfl
 refine pure_ (i := 6) (N := some 19) (v := ?_) (a' := ?_) (ba 33 71) rfl rfl (any_of HT_.out (by kernel_rfl)) (fun _ _ _ h => hP _ _ _ _ _ h) (Or.inl ⟨by rfl, ?_⟩) ?_ ?_
 rotate_left
 ·intro w'; go_simp; with_reducible rfl
 rotate_left
 ·simp only [pS, pN, sB, sZ, sS, i64_w, i32_w]; rfl
 refine pure_ (i := 12) (N := some 25) (v := ?_) (a' := ?_) (ba 33 4167) rfl rfl (any_of HT_.out (by kernel_rfl)) (fun _ _ _ h => hP _ _ _ _ _ h) (Or.inl ⟨by rfl, ?_⟩) ?_ ?_
 rotate_left
 ·intro w'; go_simp; with_reducible rfl
 rotate_left
 ·simp only [pS, pN, sB, sZ, sS, i64_w, i32_w]; rfl
 refine pure_ (i := 18) (N := some 31) (v := ?_) (a' := ?_) (ba 33 266311) rfl rfl (any_of HT_.out (by kernel_rfl)) (fun _ _ _ h => hP _ _ _ _ _ h) (Or.inl ⟨by rfl, ?_⟩) ?_ ?_
 rotate_left
 ·intro w'; go_simp; with_reducible rfl
 rotate_left
 ·simp only [pS, pN, sB, sZ, sS, i64_w, i32_w]; rfl
 refine pure_ (i := 22) (N := some 35) (v := ?_) (a' := ?_) (ba 33 4460615) rfl rfl (any_of HT_.out (by kernel_rfl)) (fun _ _ _ h => hP _ _ _ _ _ h) (Or.inl ⟨by rfl, ?_⟩) ?_ ?_
 rotate_left
 ·intro w'; go_simp; with_reducible rfl
 rotate_left
 ·simp only [pS, pN, sB, sZ, sS, i64_w, i32_w]; rfl
 refine pure_ (i := 26) (N := some 39) (v := ?_) (a' := ?_) (ba 33 71569479) rfl rfl (any_of HT_.out (by kernel_rfl)) (fun _ _ _ h => hP _ _ _ _ _ h) (Or.inl ⟨by rfl, ?_⟩) ?_ ?_
 rotate_left
 ·intro w'; go_simp; with_reducible rfl
 rotate_left
 ·simp only [pS, pN, sB, sZ, sS, i64_w, i32_w]; rfl
 refine pure_ (i := 28) (N := some 41) (v := ?_) (a' := ?_) (ba 33 340004935) rfl rfl (any_of HT_.out (by kernel_rfl)) (fun _ _ _ h => hP _ _ _ _ _ h) (Or.inl ⟨by rfl, ?_⟩) ?_ ?_
 rotate_left
 ·intro w'; go_simp; with_reducible rfl
 rotate_left
 ·simp only [pS, pN, sB, sZ, sS, i64_w, i32_w]; rfl
 refine four_ (i := 3) (j := 5) (k := 11) (m := 31) (Ni := some 16) (Nj := some 18) (Nk := some 24) (Nm := some 9) (ba 33 340004943) (ba 33 340004967) (ba 33 340006983) (ba 33 2487488583) rfl rfl rfl rfl rfl rfl rfl rfl (four_of HT_.out (by kernel_rfl)) (by decide) (by decide) (by decide) (by decide) (fun K hK => ?_) (fun K hK => ?_) (fun K hK => ?_) (fun K hK => ?_)
 ·skip
  refine goes_ Try.func35 (by kernel_rfl) rfl #[.int .i64 t0, .int .i64 19] (by rfl) rfl rfl (by (try simp only [List.map_toArray, List.map_cons, List.map_nil]); first | done | rfl) ?_
  with_reducible refine (roadsteadlaw10_text.calls k t0 19 tx _ HX.out).mono ?_
  rintro e w1 ⟨rfl, hb0_⟩
  refine ⟨_, rfl, ?_⟩
  have hb2 := Aside0.mk hb0_
  clear hb0_
  have HB3 := Aside0.mk (below_step HB0.out hb2.out)
  refine hK.out _ _ (HB3.out) (fun _ => ?_)
  clear hK K
  refine norm_ (a' := ?_) ?_ ?_
  rotate_left
  ·show Act.put _ (some 16) _ = _
   simp only [pS, pN, sB, sZ, sS]
   rfl
  refine pure_ (i := 4) (N := some 17) (v := ?_) (a' := ?_) (ba 33 340004959) rfl rfl (any_of HT_.out (by kernel_rfl)) (fun _ _ _ h => hP _ _ _ _ _ h) (Or.inl ⟨by rfl, ?_⟩) ?_ ?_
  rotate_left
  ·intro w'; go_simp; with_reducible rfl
  rotate_left
  ·simp only [pS, pN, sB, sZ, sS, i64_w, i32_w]; rfl
  refine quiet_ (i := 7) (N := some 20) (a' := ?_) (ba 33 340005087) rfl rfl (take_ofW HT_.out HW_.out (by kernel_rfl)) (fun _ _ _ h => hP _ _ _ _ _ h) (quiet_call Try.func22 (by kernel_rfl) rfl #[.slice A0 l0.length c0, .int .i64 1] (by rfl) rfl (by (try simp only [List.map_toArray, List.map_cons, List.map_nil]); first | done | rfl) (fun w' hS => g_quiet _ _ l0 1 t1 w' (Kd.C_below HR.out (hS)) HC.out H1.out)) (HB3.out) ?_ ?_
  rotate_left
  ·simp only [pS, pN, sB, sZ, sS, i64_w, i32_w]; rfl
  refine pure_ (i := 8) (N := some 21) (v := ?_) (a' := ?_) (ba 33 340005343) rfl rfl (any_of HT_.out (by kernel_rfl)) (fun _ _ _ h => hP _ _ _ _ _ h) (Or.inl ⟨by rfl, ?_⟩) ?_ ?_
  rotate_left
  ·intro w'; go_simp; with_reducible rfl
  rotate_left
  ·simp only [pS, pN, sB, sZ, sS, i64_w, i32_w]; rfl
  refine quiet_ (i := 13) (N := some 26) (a' := ?_) (ba 33 340013535) rfl rfl (take_ofW HT_.out HW_.out (by kernel_rfl)) (fun _ _ _ h => hP _ _ _ _ _ h) (quiet_call Try.func22 (by kernel_rfl) rfl #[.slice A0 l0.length c0, .int .i64 1] (by rfl) rfl (by (try simp only [List.map_toArray, List.map_cons, List.map_nil]); first | done | rfl) (fun w' hS => g_quiet _ _ l0 1 t1 w' (Kd.C_below HR.out (hS)) HC.out H1.out)) (HB3.out) ?_ ?_
  rotate_left
  ·simp only [pS, pN, sB, sZ, sS, i64_w, i32_w]; rfl
  refine pure_ (i := 14) (N := some 27) (v := ?_) (a' := ?_) (ba 33 340029919) rfl rfl (any_of HT_.out (by kernel_rfl)) (fun _ _ _ h => hP _ _ _ _ _ h) (Or.inl ⟨by rfl, ?_⟩) ?_ ?_
  rotate_left
  ·intro w'; go_simp; with_reducible rfl
  rotate_left
  ·simp only [pS, pN, sB, sZ, sS, i64_w, i32_w]; rfl
  refine pure_ (i := 15) (N := some 28) (v := ?_) (a' := ?_) (ba 33 340062687) rfl rfl (any_of HT_.out (by kernel_rfl)) (fun _ _ _ h => hP _ _ _ _ _ h) (Or.inl ⟨by rfl, ?_⟩) ?_ ?_
  rotate_left
  ·intro w'; go_simp; with_reducible rfl
  rotate_left
  ·simp only [pS, pN, sB, sZ, sS, i64_w, i32_w]; rfl
  refine quiet_ (i := 19) (N := some 32) (a' := ?_) (ba 33 340586975) rfl rfl (take_ofW HT_.out HW_.out (by kernel_rfl)) (fun _ _ _ h => hP _ _ _ _ _ h) (quiet_call Try.func22 (by kernel_rfl) rfl #[.slice A0 l0.length c0, .int .i64 2] (by rfl) rfl (by (try simp only [List.map_toArray, List.map_cons, List.map_nil]); first | done | rfl) (fun w' hS => g_quiet _ _ l0 2 t2 w' (Kd.C_below HR.out (hS)) HC.out H2.out)) (HB3.out) ?_ ?_
  rotate_left
  ·simp only [pS, pN, sB, sZ, sS, i64_w, i32_w]; rfl
  refine pure_ (i := 20) (N := some 33) (v := ?_) (a' := ?_) (ba 33 341635551) rfl rfl (any_of HT_.out (by kernel_rfl)) (fun _ _ _ h => hP _ _ _ _ _ h) (Or.inl ⟨by rfl, ?_⟩) ?_ ?_
  rotate_left
  ·intro w'; go_simp; with_reducible rfl
  rotate_left
  ·simp only [pS, pN, sB, sZ, sS, i64_w, i32_w]; rfl
  refine pure_ (i := 21) (N := some 34) (v := ?_) (a' := ?_) (ba 33 343732703) rfl rfl (any_of HT_.out (by kernel_rfl)) (fun _ _ _ h => hP _ _ _ _ _ h) (Or.inl ⟨by rfl, ?_⟩) ?_ ?_
  rotate_left
  ·intro w'; go_simp; with_reducible rfl
  rotate_left
  ·simp only [pS, pN, sB, sZ, sS, i64_w, i32_w]; rfl
  refine quiet_ (i := 23) (N := some 36) (a' := ?_) (ba 33 352121311) rfl rfl (take_ofW HT_.out HW_.out (by kernel_rfl)) (fun _ _ _ h => hP _ _ _ _ _ h) (quiet_call Try.func22 (by kernel_rfl) rfl #[.slice A0 l0.length c0, .int .i64 3] (by rfl) rfl (by (try simp only [List.map_toArray, List.map_cons, List.map_nil]); first | done | rfl) (fun w' hS => g_quiet _ _ l0 3 t3 w' (Kd.C_below HR.out (hS)) HC.out H3.out)) (HB3.out) ?_ ?_
  rotate_left
  ·simp only [pS, pN, sB, sZ, sS, i64_w, i32_w]; rfl
  refine pure_ (i := 24) (N := some 37) (v := ?_) (a' := ?_) (ba 33 368898527) rfl rfl (any_of HT_.out (by kernel_rfl)) (fun _ _ _ h => hP _ _ _ _ _ h) (Or.inl ⟨by rfl, ?_⟩) ?_ ?_
  rotate_left
  ·intro w'; go_simp; with_reducible rfl
  rotate_left
  ·simp only [pS, pN, sB, sZ, sS, i64_w, i32_w]; rfl
  refine pure_ (i := 25) (N := some 38) (v := ?_) (a' := ?_) (ba 33 402452959) rfl rfl (any_of HT_.out (by kernel_rfl)) (fun _ _ _ h => hP _ _ _ _ _ h) (Or.inl ⟨by rfl, ?_⟩) ?_ ?_
  rotate_left
  ·intro w'; go_simp; with_reducible rfl
  rotate_left
  ·simp only [pS, pN, sB, sZ, sS, i64_w, i32_w]; rfl
  refine quiet_ (i := 27) (N := some 40) (a' := ?_) (ba 33 536670687) rfl rfl (take_ofW HT_.out HW_.out (by kernel_rfl)) (fun _ _ _ h => hP _ _ _ _ _ h) (quiet_call Try.func22 (by kernel_rfl) rfl #[.slice A0 l0.length c0, .int .i64 4] (by rfl) rfl (by (try simp only [List.map_toArray, List.map_cons, List.map_nil]); first | done | rfl) (fun w' hS => g_quiet _ _ l0 4 t4 w' (Kd.C_below HR.out (hS)) HC.out H4.out)) (HB3.out) ?_ ?_
  rotate_left
  ·simp only [pS, pN, sB, sZ, sS, i64_w, i32_w]; rfl
  refine pure_ (i := 29) (N := some 42) (v := ?_) (a' := ?_) (ba 33 1073541599) rfl rfl (any_of HT_.out (by kernel_rfl)) (fun _ _ _ h => hP _ _ _ _ _ h) (Or.inl ⟨by rfl, ?_⟩) ?_ ?_
  rotate_left
  ·intro w'; go_simp; with_reducible rfl
  rotate_left
  ·simp only [pS, pN, sB, sZ, sS, i64_w, i32_w]; rfl
  refine three_ (i := 5) (j := 11) (k := 31) (Ni := some 18) (Nj := some 24) (Nk := some 9) (ba 33 1073541631) (ba 33 1073543647) (ba 33 3221025247) rfl rfl rfl rfl rfl rfl (three_of HT_.out (by kernel_rfl)) (by decide) (by decide) (by decide) (fun K hK => ?_) (fun K hK => ?_) (fun K hK => ?_)
  ·skip
   refine value_ (w1 := ?_) (v := ?_) (by rfl) rfl ?_ ?_
   rotate_left 2
   ·go_simp
    constructor
    ·rfl
    ·rfl
   have hb4 := Aside0.mk ((Below.refl _ w1).alloc (Nat.le_refl _) (.cells #[.string (⟨#[35]⟩ : ByteArray), .string (⟨#[97]⟩ : ByteArray), .string (⟨#[97, 47, 43]⟩ : ByteArray), .string (⟨#[98, 47, 35]⟩ : ByteArray)] 9))
   have HB5 := Aside0.mk (below_step HB3.out hb4.out)
   have L6 := Aside0.mk (HLA.out w1)
   generalize hW_ : w1.alloc (.cells #[.string (⟨#[35]⟩ : ByteArray), .string (⟨#[97]⟩ : ByteArray), .string (⟨#[97, 47, 43]⟩ : ByteArray), .string (⟨#[98, 47, 35]⟩ : ByteArray)] 9) = w7 at *
   clear hW_
   refine hK.out _ _ (HB5.out) (fun _ => ?_)
   clear hK K
   refine norm_ (a' := ?_) ?_ ?_
   rotate_left
   ·show Act.put _ (some 18) _ = _
    simp only [pS, pN, sB, sZ, sS]
    rfl
   refine restart_ (S2 := fun w' => Below w.heap.size w w' ∧ w'.cell? ⟨w1.heap.size, n1, none⟩ = some (.string s1)) (fun w' h => h.1) (⟨HB5.out, L6.out⟩) ?_
   refine pure_ (i := 9) (N := some 22) (v := ?_) (a' := ?_) (ba 33 1073542143) rfl rfl (any_of HT_.out (by kernel_rfl)) (fun _ _ _ h => hP _ _ _ _ _ h) (Or.inl ⟨by rfl, ?_⟩) ?_ ?_
   rotate_left
   ·intro w'; go_simp; with_reducible rfl
   rotate_left
   ·simp only [pS, pN, sB, sZ, sS, i64_w, i32_w]; rfl
   refine take_ (i := 10) (N := some 23) (v := ?_) (a' := ?_) (ba 33 1073543167) rfl rfl (take_ofW HT_.out HW_.out (by kernel_rfl)) (fun _ _ _ h => hP _ _ _ _ _ h) (Or.inl ⟨by rfl, ?_⟩) (⟨HB5.out, L6.out⟩) ?_ ?_
   rotate_left
   ·intro w' hS
    have hl_ := hS.2
    go_simp
    with_reducible rfl
   rotate_left
   ·simp only [pS, pN, sB, sZ, sS, i64_w, i32_w]; rfl
   refine two_ (i := 11) (j := 31) (Ni := some 24) (Nj := some 9) (ba 33 1073545215) (ba 33 3221026815) rfl rfl rfl rfl (two_of HT_.out (by kernel_rfl)) (by decide) (by decide) (fun K hK => ?_) (fun K hK => ?_)
   ·skip
    refine value_ (w1 := ?_) (v := ?_) (by rfl) rfl ?_ ?_
    rotate_left 2
    ·go_simp
     constructor
     ·rfl
     ·rfl
    have hb8 := Aside0.mk ((Below.refl _ w7).alloc (Nat.le_refl _) (.cells #[.string ⟨#[]⟩, .string (⟨#[97, 61, 49]⟩ : ByteArray), .string (⟨#[97, 61, 49, 44, 98, 61, 50]⟩ : ByteArray)] 9))
    have HB9 := Aside0.mk (below_step HB5.out hb8.out)
    have L10 := Aside0.mk (HLB.out w7)
    have L12 := Aside0.mk ((hb8.out.cell (p := ⟨w1.heap.size, n1, none⟩) (block_lt_of_cell L6.out)).trans L6.out)
    generalize hW_ : w7.alloc (.cells #[.string ⟨#[]⟩, .string (⟨#[97, 61, 49]⟩ : ByteArray), .string (⟨#[97, 61, 49, 44, 98, 61, 50]⟩ : ByteArray)] 9) = w11 at *
    clear hW_
    refine hK.out _ _ (⟨HB9.out, L12.out⟩) (fun _ => ?_)
    clear hK K
    refine norm_ (a' := ?_) ?_ ?_
    rotate_left
    ·show Act.put _ (some 24) _ = _
     simp only [pS, pN, sB, sZ, sS]
     rfl
    refine restart_ (S2 := fun w' => Below w.heap.size w w' ∧ w'.cell? ⟨w1.heap.size, n1, none⟩ = some (.string s1) ∧ w'.cell? ⟨w7.heap.size, n2, none⟩ = some (.string s2)) (fun w' h => ⟨h.1, h.2.1⟩) (⟨HB9.out, L12.out, L10.out⟩) ?_
    refine pure_ (i := 16) (N := some 29) (v := ?_) (a' := ?_) (ba 33 1073610751) rfl rfl (any_of HT_.out (by kernel_rfl)) (fun _ _ _ h => hP _ _ _ _ _ h) (Or.inl ⟨by rfl, ?_⟩) ?_ ?_
    rotate_left
    ·intro w'; go_simp; with_reducible rfl
    rotate_left
    ·simp only [pS, pN, sB, sZ, sS, i64_w, i32_w]; rfl
    refine take_ (i := 17) (N := some 30) (v := ?_) (a' := ?_) (ba 33 1073741823) rfl rfl (take_ofW HT_.out HW_.out (by kernel_rfl)) (fun _ _ _ h => hP _ _ _ _ _ h) (Or.inl ⟨by rfl, ?_⟩) (⟨HB9.out, L12.out, L10.out⟩) ?_ ?_
    rotate_left
    ·intro w' hS
     have hl_ := hS.2.2
     go_simp
     with_reducible rfl
    rotate_left
    ·simp only [pS, pN, sB, sZ, sS, i64_w, i32_w]; rfl
    refine pure_ (i := 30) (N := some 43) (v := ?_) (a' := ?_) (ba 33 2147483647) rfl rfl (any_of HT_.out (by kernel_rfl)) (fun _ _ _ h => hP _ _ _ _ _ h) (Or.inl ⟨by rfl, ?_⟩) ?_ ?_
    rotate_left
    ·intro w'; go_simp; with_reducible rfl
    rotate_left
    ·simp only [pS, pN, sB, sZ, sS, i64_w, i32_w]; rfl
    refine one_ (i := 31) (N := some 9) (ba 33 4294967295) rfl rfl (one_of HT_.out (by kernel_rfl)) (by decide) (fun K hK => ?_)
    refine value_ (w1 := ?_) (v := ?_) (by rfl) rfl ?_ ?_
    rotate_left 2
    ·go_simp
     constructor
     ·rfl
     ·rfl
    have hb13 := Aside0.mk ((Below.refl _ w11).alloc (Nat.le_refl _) (.cells #[.int .i64 0, .string ⟨#[]⟩, .string ⟨#[]⟩, .string ⟨#[]⟩, .int .i64 0, .int .i64 0, .int .i64 0, .slice none 0 0, .slice none 0 0, .string ⟨#[]⟩] 46))
    have HB14 := Aside0.mk (below_step HB9.out hb13.out)
    have X15 := Aside0.mk (heap_alloc_new w11 (.cells #[.int .i64 0, .string ⟨#[]⟩, .string ⟨#[]⟩, .string ⟨#[]⟩, .int .i64 0, .int .i64 0, .int .i64 0, .slice none 0 0, .slice none 0 0, .string ⟨#[]⟩] 46))
    have L17 := Aside0.mk ((hb13.out.cell (p := ⟨w1.heap.size, n1, none⟩) (block_lt_of_cell L12.out)).trans L12.out)
    have L18 := Aside0.mk ((hb13.out.cell (p := ⟨w7.heap.size, n2, none⟩) (block_lt_of_cell L10.out)).trans L10.out)
    generalize hW_ : w11.alloc (.cells #[.int .i64 0, .string ⟨#[]⟩, .string ⟨#[]⟩, .string ⟨#[]⟩, .int .i64 0, .int .i64 0, .int .i64 0, .slice none 0 0, .slice none 0 0, .string ⟨#[]⟩] 46) = w16 at *
    clear hW_
    have NE19 := Aside0.mk (Nat.ne_of_gt (block_lt_of_cell L12.out))
    have NE20 := Aside0.mk (Nat.ne_of_gt (block_lt_of_cell L10.out))
    have GX21 := Aside0.mk (HB9.out.size)
    refine hK.out _ _ (⟨HB14.out, L17.out, L18.out⟩) (fun _ => ?_)
    clear hK K
    refine norm_ (a' := ?_) ?_ ?_
    rotate_left
    ·show Act.put _ (some 9) _ = _
     simp only [pS, pN, sB, sZ, sS]
     rfl
    refine one_ (i := 32) (N := none) (ba 33 8589934591) rfl rfl (one_of HT_.out (by kernel_rfl)) (by decide) (fun K hK => ?_)
    rw [if_pos (by rfl)]
    refine wp_store_row 46 _ _ rfl (w11.heap.size) (vR a1 a3 t2 t3 t4 tx s1 s2) rfl rfl 46 #[.int .i64 0, .string ⟨#[]⟩, .string ⟨#[]⟩, .string ⟨#[]⟩, .int .i64 0, .int .i64 0, .int .i64 0, .slice none 0 0, .slice none 0 0, .string ⟨#[]⟩] X15.out size46 rfl (one46 _ _ _ _ _ _ _ _) ?_
    have HB22 := Aside0.mk (below_setRow HB14.out GX21.out (vR a1 a3 t2 t3 t4 tx s1 s2))
    have HF_ := Aside0.mk (setRow_heap _ _ _ (vR a1 a3 t2 t3 t4 tx s1 s2) _ _ X15.out)
    have L23 := Aside0.mk ((cell_setRow_other _ _ (vR a1 a3 t2 t3 t4 tx s1 s2) _ NE19.out.symm).trans L17.out)
    have L24 := Aside0.mk ((cell_setRow_other _ _ (vR a1 a3 t2 t3 t4 tx s1 s2) _ NE20.out.symm).trans L18.out)
    refine hK.out _ _ (⟨HB22.out, L23.out, L24.out⟩) (fun _ => ?_)
    clear hK K
    refine done_ (done_of HT_.out (by kernel_rfl)) ?_
    exact HQ.out _ _ _ _ _ _ _ _ _ _ _ _ _ _ _ _ _ _ _ _ _ _ _ _ _ _ _ _ _ _ _ (w11.heap.size) _ GX21.out HB22.out HF_.out
   ·skip
    refine value_ (w1 := ?_) (v := ?_) (by rfl) rfl ?_ ?_
    rotate_left 2
    ·go_simp
     constructor
     ·rfl
     ·rfl
    have hb25 := Aside0.mk ((Below.refl _ w7).alloc (Nat.le_refl _) (.cells #[.int .i64 0, .string ⟨#[]⟩, .string ⟨#[]⟩, .string ⟨#[]⟩, .int .i64 0, .int .i64 0, .int .i64 0, .slice none 0 0, .slice none 0 0, .string ⟨#[]⟩] 46))
    have HB26 := Aside0.mk (below_step HB5.out hb25.out)
    have X27 := Aside0.mk (heap_alloc_new w7 (.cells #[.int .i64 0, .string ⟨#[]⟩, .string ⟨#[]⟩, .string ⟨#[]⟩, .int .i64 0, .int .i64 0, .int .i64 0, .slice none 0 0, .slice none 0 0, .string ⟨#[]⟩] 46))
    have L29 := Aside0.mk ((hb25.out.cell (p := ⟨w1.heap.size, n1, none⟩) (block_lt_of_cell L6.out)).trans L6.out)
    generalize hW_ : w7.alloc (.cells #[.int .i64 0, .string ⟨#[]⟩, .string ⟨#[]⟩, .string ⟨#[]⟩, .int .i64 0, .int .i64 0, .int .i64 0, .slice none 0 0, .slice none 0 0, .string ⟨#[]⟩] 46) = w28 at *
    clear hW_
    have NE30 := Aside0.mk (Nat.ne_of_gt (block_lt_of_cell L6.out))
    have GX31 := Aside0.mk (HB5.out.size)
    refine hK.out _ _ (⟨HB26.out, L29.out⟩) (fun _ => ?_)
    clear hK K
    refine norm_ (a' := ?_) ?_ ?_
    rotate_left
    ·show Act.put _ (some 9) _ = _
     simp only [pS, pN, sB, sZ, sS]
     rfl
    refine one_ (i := 11) (N := some 24) (ba 33 3221028863) rfl rfl (one_of HT_.out (by kernel_rfl)) (by decide) (fun K hK => ?_)
    refine value_ (w1 := ?_) (v := ?_) (by rfl) rfl ?_ ?_
    rotate_left 2
    ·go_simp
     constructor
     ·rfl
     ·rfl
    have hb32 := Aside0.mk ((Below.refl _ w28).alloc (Nat.le_refl _) (.cells #[.string ⟨#[]⟩, .string (⟨#[97, 61, 49]⟩ : ByteArray), .string (⟨#[97, 61, 49, 44, 98, 61, 50]⟩ : ByteArray)] 9))
    have HB33 := Aside0.mk (below_step HB26.out hb32.out)
    have L34 := Aside0.mk (HLB.out w28)
    have L36 := Aside0.mk ((hb32.out.cell (p := ⟨w1.heap.size, n1, none⟩) (block_lt_of_cell L29.out)).trans L29.out)
    have X37 := Aside0.mk ((hb32.out.block _ (Array.getElem?_eq_some_iff.1 X27.out).1).trans X27.out)
    generalize hW_ : w28.alloc (.cells #[.string ⟨#[]⟩, .string (⟨#[97, 61, 49]⟩ : ByteArray), .string (⟨#[97, 61, 49, 44, 98, 61, 50]⟩ : ByteArray)] 9) = w35 at *
    clear hW_
    have NE38 := Aside0.mk (Nat.ne_of_lt (Array.getElem?_eq_some_iff.1 X27.out).1)
    refine hK.out _ _ (⟨HB33.out, L36.out⟩) (fun _ => ?_)
    clear hK K
    refine norm_ (a' := ?_) ?_ ?_
    rotate_left
    ·show Act.put _ (some 24) _ = _
     simp only [pS, pN, sB, sZ, sS]
     rfl
    refine restart_ (S2 := fun w' => Below w.heap.size w w' ∧ w'.cell? ⟨w1.heap.size, n1, none⟩ = some (.string s1) ∧ w'.cell? ⟨w28.heap.size, n2, none⟩ = some (.string s2)) (fun w' h => ⟨h.1, h.2.1⟩) (⟨HB33.out, L36.out, L34.out⟩) ?_
    refine pure_ (i := 16) (N := some 29) (v := ?_) (a' := ?_) (ba 33 3221094399) rfl rfl (any_of HT_.out (by kernel_rfl)) (fun _ _ _ h => hP _ _ _ _ _ h) (Or.inl ⟨by rfl, ?_⟩) ?_ ?_
    rotate_left
    ·intro w'; go_simp; with_reducible rfl
    rotate_left
    ·simp only [pS, pN, sB, sZ, sS, i64_w, i32_w]; rfl
    refine take_ (i := 17) (N := some 30) (v := ?_) (a' := ?_) (ba 33 3221225471) rfl rfl (take_ofW HT_.out HW_.out (by kernel_rfl)) (fun _ _ _ h => hP _ _ _ _ _ h) (Or.inl ⟨by rfl, ?_⟩) (⟨HB33.out, L36.out, L34.out⟩) ?_ ?_
    rotate_left
    ·intro w' hS
     have hl_ := hS.2.2
     go_simp
     with_reducible rfl
    rotate_left
    ·simp only [pS, pN, sB, sZ, sS, i64_w, i32_w]; rfl
    refine pure_ (i := 30) (N := some 43) (v := ?_) (a' := ?_) (ba 33 4294967295) rfl rfl (any_of HT_.out (by kernel_rfl)) (fun _ _ _ h => hP _ _ _ _ _ h) (Or.inl ⟨by rfl, ?_⟩) ?_ ?_
    rotate_left
    ·intro w'; go_simp; with_reducible rfl
    rotate_left
    ·simp only [pS, pN, sB, sZ, sS, i64_w, i32_w]; rfl
    refine one_ (i := 32) (N := none) (ba 33 8589934591) rfl rfl (one_of HT_.out (by kernel_rfl)) (by decide) (fun K hK => ?_)
    rw [if_pos (by rfl)]
    refine wp_store_row 46 _ _ rfl (w7.heap.size) (vR a1 a3 t2 t3 t4 tx s1 s2) rfl rfl 46 #[.int .i64 0, .string ⟨#[]⟩, .string ⟨#[]⟩, .string ⟨#[]⟩, .int .i64 0, .int .i64 0, .int .i64 0, .slice none 0 0, .slice none 0 0, .string ⟨#[]⟩] X37.out size46 rfl (one46 _ _ _ _ _ _ _ _) ?_
    have HB39 := Aside0.mk (below_setRow HB33.out GX31.out (vR a1 a3 t2 t3 t4 tx s1 s2))
    have HF_ := Aside0.mk (setRow_heap _ _ _ (vR a1 a3 t2 t3 t4 tx s1 s2) _ _ X37.out)
    have L40 := Aside0.mk ((cell_setRow_other _ _ (vR a1 a3 t2 t3 t4 tx s1 s2) _ NE30.out.symm).trans L36.out)
    have L41 := Aside0.mk ((cell_setRow_other _ _ (vR a1 a3 t2 t3 t4 tx s1 s2) _ NE38.out.symm).trans L34.out)
    refine hK.out _ _ (⟨HB39.out, L40.out, L41.out⟩) (fun _ => ?_)
    clear hK K
    refine done_ (done_of HT_.out (by kernel_rfl)) ?_
    exact HQ.out _ _ _ _ _ _ _ _ _ _ _ _ _ _ _ _ _ _ _ _ _ _ _ _ _ _ _ _ _ _ _ (w7.heap.size) _ GX31.out HB39.out HF_.out
  ·skip
   refine value_ (w1 := ?_) (v := ?_) (by rfl) rfl ?_ ?_
   rotate_left 2
   ·go_simp
    constructor
    ·rfl
    ·rfl
   have hb42 := Aside0.mk ((Below.refl _ w1).alloc (Nat.le_refl _) (.cells #[.string ⟨#[]⟩, .string (⟨#[97, 61, 49]⟩ : ByteArray), .string (⟨#[97, 61, 49, 44, 98, 61, 50]⟩ : ByteArray)] 9))
   have HB43 := Aside0.mk (below_step HB3.out hb42.out)
   have L44 := Aside0.mk (HLB.out w1)
   generalize hW_ : w1.alloc (.cells #[.string ⟨#[]⟩, .string (⟨#[97, 61, 49]⟩ : ByteArray), .string (⟨#[97, 61, 49, 44, 98, 61, 50]⟩ : ByteArray)] 9) = w45 at *
   clear hW_
   refine hK.out _ _ (HB43.out) (fun _ => ?_)
   clear hK K
   refine norm_ (a' := ?_) ?_ ?_
   rotate_left
   ·show Act.put _ (some 24) _ = _
    simp only [pS, pN, sB, sZ, sS]
    rfl
   refine restart_ (S2 := fun w' => Below w.heap.size w w' ∧ w'.cell? ⟨w1.heap.size, n2, none⟩ = some (.string s2)) (fun w' h => h.1) (⟨HB43.out, L44.out⟩) ?_
   refine pure_ (i := 16) (N := some 29) (v := ?_) (a' := ?_) (ba 33 1073609183) rfl rfl (any_of HT_.out (by kernel_rfl)) (fun _ _ _ h => hP _ _ _ _ _ h) (Or.inl ⟨by rfl, ?_⟩) ?_ ?_
   rotate_left
   ·intro w'; go_simp; with_reducible rfl
   rotate_left
   ·simp only [pS, pN, sB, sZ, sS, i64_w, i32_w]; rfl
   refine take_ (i := 17) (N := some 30) (v := ?_) (a' := ?_) (ba 33 1073740255) rfl rfl (take_ofW HT_.out HW_.out (by kernel_rfl)) (fun _ _ _ h => hP _ _ _ _ _ h) (Or.inl ⟨by rfl, ?_⟩) (⟨HB43.out, L44.out⟩) ?_ ?_
   rotate_left
   ·intro w' hS
    have hl_ := hS.2
    go_simp
    with_reducible rfl
   rotate_left
   ·simp only [pS, pN, sB, sZ, sS, i64_w, i32_w]; rfl
   refine two_ (i := 5) (j := 31) (Ni := some 18) (Nj := some 9) (ba 33 1073740287) (ba 33 3221223903) rfl rfl rfl rfl (two_of HT_.out (by kernel_rfl)) (by decide) (by decide) (fun K hK => ?_) (fun K hK => ?_)
   ·skip
    refine value_ (w1 := ?_) (v := ?_) (by rfl) rfl ?_ ?_
    rotate_left 2
    ·go_simp
     constructor
     ·rfl
     ·rfl
    have hb46 := Aside0.mk ((Below.refl _ w45).alloc (Nat.le_refl _) (.cells #[.string (⟨#[35]⟩ : ByteArray), .string (⟨#[97]⟩ : ByteArray), .string (⟨#[97, 47, 43]⟩ : ByteArray), .string (⟨#[98, 47, 35]⟩ : ByteArray)] 9))
    have HB47 := Aside0.mk (below_step HB43.out hb46.out)
    have L48 := Aside0.mk (HLA.out w45)
    have L50 := Aside0.mk ((hb46.out.cell (p := ⟨w1.heap.size, n2, none⟩) (block_lt_of_cell L44.out)).trans L44.out)
    generalize hW_ : w45.alloc (.cells #[.string (⟨#[35]⟩ : ByteArray), .string (⟨#[97]⟩ : ByteArray), .string (⟨#[97, 47, 43]⟩ : ByteArray), .string (⟨#[98, 47, 35]⟩ : ByteArray)] 9) = w49 at *
    clear hW_
    refine hK.out _ _ (⟨HB47.out, L50.out⟩) (fun _ => ?_)
    clear hK K
    refine norm_ (a' := ?_) ?_ ?_
    rotate_left
    ·show Act.put _ (some 18) _ = _
     simp only [pS, pN, sB, sZ, sS]
     rfl
    refine restart_ (S2 := fun w' => Below w.heap.size w w' ∧ w'.cell? ⟨w1.heap.size, n2, none⟩ = some (.string s2) ∧ w'.cell? ⟨w45.heap.size, n1, none⟩ = some (.string s1)) (fun w' h => ⟨h.1, h.2.1⟩) (⟨HB47.out, L50.out, L48.out⟩) ?_
    refine pure_ (i := 9) (N := some 22) (v := ?_) (a' := ?_) (ba 33 1073740799) rfl rfl (any_of HT_.out (by kernel_rfl)) (fun _ _ _ h => hP _ _ _ _ _ h) (Or.inl ⟨by rfl, ?_⟩) ?_ ?_
    rotate_left
    ·intro w'; go_simp; with_reducible rfl
    rotate_left
    ·simp only [pS, pN, sB, sZ, sS, i64_w, i32_w]; rfl
    refine take_ (i := 10) (N := some 23) (v := ?_) (a' := ?_) (ba 33 1073741823) rfl rfl (take_ofW HT_.out HW_.out (by kernel_rfl)) (fun _ _ _ h => hP _ _ _ _ _ h) (Or.inl ⟨by rfl, ?_⟩) (⟨HB47.out, L50.out, L48.out⟩) ?_ ?_
    rotate_left
    ·intro w' hS
     have hl_ := hS.2.2
     go_simp
     with_reducible rfl
    rotate_left
    ·simp only [pS, pN, sB, sZ, sS, i64_w, i32_w]; rfl
    refine pure_ (i := 30) (N := some 43) (v := ?_) (a' := ?_) (ba 33 2147483647) rfl rfl (any_of HT_.out (by kernel_rfl)) (fun _ _ _ h => hP _ _ _ _ _ h) (Or.inl ⟨by rfl, ?_⟩) ?_ ?_
    rotate_left
    ·intro w'; go_simp; with_reducible rfl
    rotate_left
    ·simp only [pS, pN, sB, sZ, sS, i64_w, i32_w]; rfl
    refine one_ (i := 31) (N := some 9) (ba 33 4294967295) rfl rfl (one_of HT_.out (by kernel_rfl)) (by decide) (fun K hK => ?_)
    refine value_ (w1 := ?_) (v := ?_) (by rfl) rfl ?_ ?_
    rotate_left 2
    ·go_simp
     constructor
     ·rfl
     ·rfl
    have hb51 := Aside0.mk ((Below.refl _ w49).alloc (Nat.le_refl _) (.cells #[.int .i64 0, .string ⟨#[]⟩, .string ⟨#[]⟩, .string ⟨#[]⟩, .int .i64 0, .int .i64 0, .int .i64 0, .slice none 0 0, .slice none 0 0, .string ⟨#[]⟩] 46))
    have HB52 := Aside0.mk (below_step HB47.out hb51.out)
    have X53 := Aside0.mk (heap_alloc_new w49 (.cells #[.int .i64 0, .string ⟨#[]⟩, .string ⟨#[]⟩, .string ⟨#[]⟩, .int .i64 0, .int .i64 0, .int .i64 0, .slice none 0 0, .slice none 0 0, .string ⟨#[]⟩] 46))
    have L55 := Aside0.mk ((hb51.out.cell (p := ⟨w1.heap.size, n2, none⟩) (block_lt_of_cell L50.out)).trans L50.out)
    have L56 := Aside0.mk ((hb51.out.cell (p := ⟨w45.heap.size, n1, none⟩) (block_lt_of_cell L48.out)).trans L48.out)
    generalize hW_ : w49.alloc (.cells #[.int .i64 0, .string ⟨#[]⟩, .string ⟨#[]⟩, .string ⟨#[]⟩, .int .i64 0, .int .i64 0, .int .i64 0, .slice none 0 0, .slice none 0 0, .string ⟨#[]⟩] 46) = w54 at *
    clear hW_
    have NE57 := Aside0.mk (Nat.ne_of_gt (block_lt_of_cell L50.out))
    have NE58 := Aside0.mk (Nat.ne_of_gt (block_lt_of_cell L48.out))
    have GX59 := Aside0.mk (HB47.out.size)
    refine hK.out _ _ (⟨HB52.out, L55.out, L56.out⟩) (fun _ => ?_)
    clear hK K
    refine norm_ (a' := ?_) ?_ ?_
    rotate_left
    ·show Act.put _ (some 9) _ = _
     simp only [pS, pN, sB, sZ, sS]
     rfl
    refine one_ (i := 32) (N := none) (ba 33 8589934591) rfl rfl (one_of HT_.out (by kernel_rfl)) (by decide) (fun K hK => ?_)
    rw [if_pos (by rfl)]
    refine wp_store_row 46 _ _ rfl (w49.heap.size) (vR a1 a3 t2 t3 t4 tx s1 s2) rfl rfl 46 #[.int .i64 0, .string ⟨#[]⟩, .string ⟨#[]⟩, .string ⟨#[]⟩, .int .i64 0, .int .i64 0, .int .i64 0, .slice none 0 0, .slice none 0 0, .string ⟨#[]⟩] X53.out size46 rfl (one46 _ _ _ _ _ _ _ _) ?_
    have HB60 := Aside0.mk (below_setRow HB52.out GX59.out (vR a1 a3 t2 t3 t4 tx s1 s2))
    have HF_ := Aside0.mk (setRow_heap _ _ _ (vR a1 a3 t2 t3 t4 tx s1 s2) _ _ X53.out)
    have L61 := Aside0.mk ((cell_setRow_other _ _ (vR a1 a3 t2 t3 t4 tx s1 s2) _ NE57.out.symm).trans L55.out)
    have L62 := Aside0.mk ((cell_setRow_other _ _ (vR a1 a3 t2 t3 t4 tx s1 s2) _ NE58.out.symm).trans L56.out)
    refine hK.out _ _ (⟨HB60.out, L61.out, L62.out⟩) (fun _ => ?_)
    clear hK K
    refine done_ (done_of HT_.out (by kernel_rfl)) ?_
    exact HQ.out _ _ _ _ _ _ _ _ _ _ _ _ _ _ _ _ _ _ _ _ _ _ _ _ _ _ _ _ _ _ _ (w49.heap.size) _ GX59.out HB60.out HF_.out
   ·skip
    refine value_ (w1 := ?_) (v := ?_) (by rfl) rfl ?_ ?_
    rotate_left 2
    ·go_simp
     constructor
     ·rfl
     ·rfl
    have hb63 := Aside0.mk ((Below.refl _ w45).alloc (Nat.le_refl _) (.cells #[.int .i64 0, .string ⟨#[]⟩, .string ⟨#[]⟩, .string ⟨#[]⟩, .int .i64 0, .int .i64 0, .int .i64 0, .slice none 0 0, .slice none 0 0, .string ⟨#[]⟩] 46))
    have HB64 := Aside0.mk (below_step HB43.out hb63.out)
    have X65 := Aside0.mk (heap_alloc_new w45 (.cells #[.int .i64 0, .string ⟨#[]⟩, .string ⟨#[]⟩, .string ⟨#[]⟩, .int .i64 0, .int .i64 0, .int .i64 0, .slice none 0 0, .slice none 0 0, .string ⟨#[]⟩] 46))
    have L67 := Aside0.mk ((hb63.out.cell (p := ⟨w1.heap.size, n2, none⟩) (block_lt_of_cell L44.out)).trans L44.out)
    generalize hW_ : w45.alloc (.cells #[.int .i64 0, .string ⟨#[]⟩, .string ⟨#[]⟩, .string ⟨#[]⟩, .int .i64 0, .int .i64 0, .int .i64 0, .slice none 0 0, .slice none 0 0, .string ⟨#[]⟩] 46) = w66 at *
    clear hW_
    have NE68 := Aside0.mk (Nat.ne_of_gt (block_lt_of_cell L44.out))
    have GX69 := Aside0.mk (HB43.out.size)
    refine hK.out _ _ (⟨HB64.out, L67.out⟩) (fun _ => ?_)
    clear hK K
    refine norm_ (a' := ?_) ?_ ?_
    rotate_left
    ·show Act.put _ (some 9) _ = _
     simp only [pS, pN, sB, sZ, sS]
     rfl
    refine one_ (i := 5) (N := some 18) (ba 33 3221223935) rfl rfl (one_of HT_.out (by kernel_rfl)) (by decide) (fun K hK => ?_)
    refine value_ (w1 := ?_) (v := ?_) (by rfl) rfl ?_ ?_
    rotate_left 2
    ·go_simp
     constructor
     ·rfl
     ·rfl
    have hb70 := Aside0.mk ((Below.refl _ w66).alloc (Nat.le_refl _) (.cells #[.string (⟨#[35]⟩ : ByteArray), .string (⟨#[97]⟩ : ByteArray), .string (⟨#[97, 47, 43]⟩ : ByteArray), .string (⟨#[98, 47, 35]⟩ : ByteArray)] 9))
    have HB71 := Aside0.mk (below_step HB64.out hb70.out)
    have L72 := Aside0.mk (HLA.out w66)
    have L74 := Aside0.mk ((hb70.out.cell (p := ⟨w1.heap.size, n2, none⟩) (block_lt_of_cell L67.out)).trans L67.out)
    have X75 := Aside0.mk ((hb70.out.block _ (Array.getElem?_eq_some_iff.1 X65.out).1).trans X65.out)
    generalize hW_ : w66.alloc (.cells #[.string (⟨#[35]⟩ : ByteArray), .string (⟨#[97]⟩ : ByteArray), .string (⟨#[97, 47, 43]⟩ : ByteArray), .string (⟨#[98, 47, 35]⟩ : ByteArray)] 9) = w73 at *
    clear hW_
    have NE76 := Aside0.mk (Nat.ne_of_lt (Array.getElem?_eq_some_iff.1 X65.out).1)
    refine hK.out _ _ (⟨HB71.out, L74.out⟩) (fun _ => ?_)
    clear hK K
    refine norm_ (a' := ?_) ?_ ?_
    rotate_left
    ·show Act.put _ (some 18) _ = _
     simp only [pS, pN, sB, sZ, sS]
     rfl
    refine restart_ (S2 := fun w' => Below w.heap.size w w' ∧ w'.cell? ⟨w1.heap.size, n2, none⟩ = some (.string s2) ∧ w'.cell? ⟨w66.heap.size, n1, none⟩ = some (.string s1)) (fun w' h => ⟨h.1, h.2.1⟩) (⟨HB71.out, L74.out, L72.out⟩) ?_
    refine pure_ (i := 9) (N := some 22) (v := ?_) (a' := ?_) (ba 33 3221224447) rfl rfl (any_of HT_.out (by kernel_rfl)) (fun _ _ _ h => hP _ _ _ _ _ h) (Or.inl ⟨by rfl, ?_⟩) ?_ ?_
    rotate_left
    ·intro w'; go_simp; with_reducible rfl
    rotate_left
    ·simp only [pS, pN, sB, sZ, sS, i64_w, i32_w]; rfl
    refine take_ (i := 10) (N := some 23) (v := ?_) (a' := ?_) (ba 33 3221225471) rfl rfl (take_ofW HT_.out HW_.out (by kernel_rfl)) (fun _ _ _ h => hP _ _ _ _ _ h) (Or.inl ⟨by rfl, ?_⟩) (⟨HB71.out, L74.out, L72.out⟩) ?_ ?_
    rotate_left
    ·intro w' hS
     have hl_ := hS.2.2
     go_simp
     with_reducible rfl
    rotate_left
    ·simp only [pS, pN, sB, sZ, sS, i64_w, i32_w]; rfl
    refine pure_ (i := 30) (N := some 43) (v := ?_) (a' := ?_) (ba 33 4294967295) rfl rfl (any_of HT_.out (by kernel_rfl)) (fun _ _ _ h => hP _ _ _ _ _ h) (Or.inl ⟨by rfl, ?_⟩) ?_ ?_
    rotate_left
    ·intro w'; go_simp; with_reducible rfl
    rotate_left
    ·simp only [pS, pN, sB, sZ, sS, i64_w, i32_w]; rfl
    refine one_ (i := 32) (N := none) (ba 33 8589934591) rfl rfl (one_of HT_.out (by kernel_rfl)) (by decide) (fun K hK => ?_)
    rw [if_pos (by rfl)]
    refine wp_store_row 46 _ _ rfl (w45.heap.size) (vR a1 a3 t2 t3 t4 tx s1 s2) rfl rfl 46 #[.int .i64 0, .string ⟨#[]⟩, .string ⟨#[]⟩, .string ⟨#[]⟩, .int .i64 0, .int .i64 0, .int .i64 0, .slice none 0 0, .slice none 0 0, .string ⟨#[]⟩] X75.out size46 rfl (one46 _ _ _ _ _ _ _ _) ?_
    have HB77 := Aside0.mk (below_setRow HB71.out GX69.out (vR a1 a3 t2 t3 t4 tx s1 s2))
    have HF_ := Aside0.mk (setRow_heap _ _ _ (vR a1 a3 t2 t3 t4 tx s1 s2) _ _ X75.out)
    have L78 := Aside0.mk ((cell_setRow_other _ _ (vR a1 a3 t2 t3 t4 tx s1 s2) _ NE68.out.symm).trans L74.out)
    have L79 := Aside0.mk ((cell_setRow_other _ _ (vR a1 a3 t2 t3 t4 tx s1 s2) _ NE76.out.symm).trans L72.out)
    refine hK.out _ _ (⟨HB77.out, L78.out, L79.out⟩) (fun _ => ?_)
    clear hK K
    refine done_ (done_of HT_.out (by kernel_rfl)) ?_
    exact HQ.out _ _ _ _ _ _ _ _ _ _ _ _ _ _ _ _ _ _ _ _ _ _ _ _ _ _ _ _ _ _ _ (w45.heap.size) _ GX69.out HB77.out HF_.out
  ·skip
   refine value_ (w1 := ?_) (v := ?_) (by rfl) rfl ?_ ?_
   rotate_left 2
   ·go_simp
    constructor
    ·rfl
    ·rfl
   have hb80 := Aside0.mk ((Below.refl _ w1).alloc (Nat.le_refl _) (.cells #[.int .i64 0, .string ⟨#[]⟩, .string ⟨#[]⟩, .string ⟨#[]⟩, .int .i64 0, .int .i64 0, .int .i64 0, .slice none 0 0, .slice none 0 0, .string ⟨#[]⟩] 46))
   have HB81 := Aside0.mk (below_step HB3.out hb80.out)
   have X82 := Aside0.mk (heap_alloc_new w1 (.cells #[.int .i64 0, .string ⟨#[]⟩, .string ⟨#[]⟩, .string ⟨#[]⟩, .int .i64 0, .int .i64 0, .int .i64 0, .slice none 0 0, .slice none 0 0, .string ⟨#[]⟩] 46))
   generalize hW_ : w1.alloc (.cells #[.int .i64 0, .string ⟨#[]⟩, .string ⟨#[]⟩, .string ⟨#[]⟩, .int .i64 0, .int .i64 0, .int .i64 0, .slice none 0 0, .slice none 0 0, .string ⟨#[]⟩] 46) = w83 at *
   clear hW_
   have GX84 := Aside0.mk (HB3.out.size)
   refine hK.out _ _ (HB81.out) (fun _ => ?_)
   clear hK K
   refine norm_ (a' := ?_) ?_ ?_
   rotate_left
   ·show Act.put _ (some 9) _ = _
    simp only [pS, pN, sB, sZ, sS]
    rfl
   refine two_ (i := 5) (j := 11) (Ni := some 18) (Nj := some 24) (ba 33 3221025279) (ba 33 3221027295) rfl rfl rfl rfl (two_of HT_.out (by kernel_rfl)) (by decide) (by decide) (fun K hK => ?_) (fun K hK => ?_)
   ·skip
    refine value_ (w1 := ?_) (v := ?_) (by rfl) rfl ?_ ?_
    rotate_left 2
    ·go_simp
     constructor
     ·rfl
     ·rfl
    have hb85 := Aside0.mk ((Below.refl _ w83).alloc (Nat.le_refl _) (.cells #[.string (⟨#[35]⟩ : ByteArray), .string (⟨#[97]⟩ : ByteArray), .string (⟨#[97, 47, 43]⟩ : ByteArray), .string (⟨#[98, 47, 35]⟩ : ByteArray)] 9))
    have HB86 := Aside0.mk (below_step HB81.out hb85.out)
    have L87 := Aside0.mk (HLA.out w83)
    have X89 := Aside0.mk ((hb85.out.block _ (Array.getElem?_eq_some_iff.1 X82.out).1).trans X82.out)
    generalize hW_ : w83.alloc (.cells #[.string (⟨#[35]⟩ : ByteArray), .string (⟨#[97]⟩ : ByteArray), .string (⟨#[97, 47, 43]⟩ : ByteArray), .string (⟨#[98, 47, 35]⟩ : ByteArray)] 9) = w88 at *
    clear hW_
    have NE90 := Aside0.mk (Nat.ne_of_lt (Array.getElem?_eq_some_iff.1 X82.out).1)
    refine hK.out _ _ (HB86.out) (fun _ => ?_)
    clear hK K
    refine norm_ (a' := ?_) ?_ ?_
    rotate_left
    ·show Act.put _ (some 18) _ = _
     simp only [pS, pN, sB, sZ, sS]
     rfl
    refine restart_ (S2 := fun w' => Below w.heap.size w w' ∧ w'.cell? ⟨w83.heap.size, n1, none⟩ = some (.string s1)) (fun w' h => h.1) (⟨HB86.out, L87.out⟩) ?_
    refine pure_ (i := 9) (N := some 22) (v := ?_) (a' := ?_) (ba 33 3221025791) rfl rfl (any_of HT_.out (by kernel_rfl)) (fun _ _ _ h => hP _ _ _ _ _ h) (Or.inl ⟨by rfl, ?_⟩) ?_ ?_
    rotate_left
    ·intro w'; go_simp; with_reducible rfl
    rotate_left
    ·simp only [pS, pN, sB, sZ, sS, i64_w, i32_w]; rfl
    refine take_ (i := 10) (N := some 23) (v := ?_) (a' := ?_) (ba 33 3221026815) rfl rfl (take_ofW HT_.out HW_.out (by kernel_rfl)) (fun _ _ _ h => hP _ _ _ _ _ h) (Or.inl ⟨by rfl, ?_⟩) (⟨HB86.out, L87.out⟩) ?_ ?_
    rotate_left
    ·intro w' hS
     have hl_ := hS.2
     go_simp
     with_reducible rfl
    rotate_left
    ·simp only [pS, pN, sB, sZ, sS, i64_w, i32_w]; rfl
    refine one_ (i := 11) (N := some 24) (ba 33 3221028863) rfl rfl (one_of HT_.out (by kernel_rfl)) (by decide) (fun K hK => ?_)
    refine value_ (w1 := ?_) (v := ?_) (by rfl) rfl ?_ ?_
    rotate_left 2
    ·go_simp
     constructor
     ·rfl
     ·rfl
    have hb91 := Aside0.mk ((Below.refl _ w88).alloc (Nat.le_refl _) (.cells #[.string ⟨#[]⟩, .string (⟨#[97, 61, 49]⟩ : ByteArray), .string (⟨#[97, 61, 49, 44, 98, 61, 50]⟩ : ByteArray)] 9))
    have HB92 := Aside0.mk (below_step HB86.out hb91.out)
    have L93 := Aside0.mk (HLB.out w88)
    have L95 := Aside0.mk ((hb91.out.cell (p := ⟨w83.heap.size, n1, none⟩) (block_lt_of_cell L87.out)).trans L87.out)
    have X96 := Aside0.mk ((hb91.out.block _ (Array.getElem?_eq_some_iff.1 X89.out).1).trans X89.out)
    generalize hW_ : w88.alloc (.cells #[.string ⟨#[]⟩, .string (⟨#[97, 61, 49]⟩ : ByteArray), .string (⟨#[97, 61, 49, 44, 98, 61, 50]⟩ : ByteArray)] 9) = w94 at *
    clear hW_
    have NE97 := Aside0.mk (Nat.ne_of_lt (Array.getElem?_eq_some_iff.1 X89.out).1)
    refine hK.out _ _ (⟨HB92.out, L95.out⟩) (fun _ => ?_)
    clear hK K
    refine norm_ (a' := ?_) ?_ ?_
    rotate_left
    ·show Act.put _ (some 24) _ = _
     simp only [pS, pN, sB, sZ, sS]
     rfl
    refine restart_ (S2 := fun w' => Below w.heap.size w w' ∧ w'.cell? ⟨w83.heap.size, n1, none⟩ = some (.string s1) ∧ w'.cell? ⟨w88.heap.size, n2, none⟩ = some (.string s2)) (fun w' h => ⟨h.1, h.2.1⟩) (⟨HB92.out, L95.out, L93.out⟩) ?_
    refine pure_ (i := 16) (N := some 29) (v := ?_) (a' := ?_) (ba 33 3221094399) rfl rfl (any_of HT_.out (by kernel_rfl)) (fun _ _ _ h => hP _ _ _ _ _ h) (Or.inl ⟨by rfl, ?_⟩) ?_ ?_
    rotate_left
    ·intro w'; go_simp; with_reducible rfl
    rotate_left
    ·simp only [pS, pN, sB, sZ, sS, i64_w, i32_w]; rfl
    refine take_ (i := 17) (N := some 30) (v := ?_) (a' := ?_) (ba 33 3221225471) rfl rfl (take_ofW HT_.out HW_.out (by kernel_rfl)) (fun _ _ _ h => hP _ _ _ _ _ h) (Or.inl ⟨by rfl, ?_⟩) (⟨HB92.out, L95.out, L93.out⟩) ?_ ?_
    rotate_left
    ·intro w' hS
     have hl_ := hS.2.2
     go_simp
     with_reducible rfl
    rotate_left
    ·simp only [pS, pN, sB, sZ, sS, i64_w, i32_w]; rfl
    refine pure_ (i := 30) (N := some 43) (v := ?_) (a' := ?_) (ba 33 4294967295) rfl rfl (any_of HT_.out (by kernel_rfl)) (fun _ _ _ h => hP _ _ _ _ _ h) (Or.inl ⟨by rfl, ?_⟩) ?_ ?_
    rotate_left
    ·intro w'; go_simp; with_reducible rfl
    rotate_left
    ·simp only [pS, pN, sB, sZ, sS, i64_w, i32_w]; rfl
    refine one_ (i := 32) (N := none) (ba 33 8589934591) rfl rfl (one_of HT_.out (by kernel_rfl)) (by decide) (fun K hK => ?_)
    rw [if_pos (by rfl)]
    refine wp_store_row 46 _ _ rfl (w1.heap.size) (vR a1 a3 t2 t3 t4 tx s1 s2) rfl rfl 46 #[.int .i64 0, .string ⟨#[]⟩, .string ⟨#[]⟩, .string ⟨#[]⟩, .int .i64 0, .int .i64 0, .int .i64 0, .slice none 0 0, .slice none 0 0, .string ⟨#[]⟩] X96.out size46 rfl (one46 _ _ _ _ _ _ _ _) ?_
    have HB98 := Aside0.mk (below_setRow HB92.out GX84.out (vR a1 a3 t2 t3 t4 tx s1 s2))
    have HF_ := Aside0.mk (setRow_heap _ _ _ (vR a1 a3 t2 t3 t4 tx s1 s2) _ _ X96.out)
    have L99 := Aside0.mk ((cell_setRow_other _ _ (vR a1 a3 t2 t3 t4 tx s1 s2) _ NE90.out.symm).trans L95.out)
    have L100 := Aside0.mk ((cell_setRow_other _ _ (vR a1 a3 t2 t3 t4 tx s1 s2) _ NE97.out.symm).trans L93.out)
    refine hK.out _ _ (⟨HB98.out, L99.out, L100.out⟩) (fun _ => ?_)
    clear hK K
    refine done_ (done_of HT_.out (by kernel_rfl)) ?_
    exact HQ.out _ _ _ _ _ _ _ _ _ _ _ _ _ _ _ _ _ _ _ _ _ _ _ _ _ _ _ _ _ _ _ (w1.heap.size) _ GX84.out HB98.out HF_.out
   ·skip
    refine value_ (w1 := ?_) (v := ?_) (by rfl) rfl ?_ ?_
    rotate_left 2
    ·go_simp
     constructor
     ·rfl
     ·rfl
    have hb101 := Aside0.mk ((Below.refl _ w83).alloc (Nat.le_refl _) (.cells #[.string ⟨#[]⟩, .string (⟨#[97, 61, 49]⟩ : ByteArray), .string (⟨#[97, 61, 49, 44, 98, 61, 50]⟩ : ByteArray)] 9))
    have HB102 := Aside0.mk (below_step HB81.out hb101.out)
    have L103 := Aside0.mk (HLB.out w83)
    have X105 := Aside0.mk ((hb101.out.block _ (Array.getElem?_eq_some_iff.1 X82.out).1).trans X82.out)
    generalize hW_ : w83.alloc (.cells #[.string ⟨#[]⟩, .string (⟨#[97, 61, 49]⟩ : ByteArray), .string (⟨#[97, 61, 49, 44, 98, 61, 50]⟩ : ByteArray)] 9) = w104 at *
    clear hW_
    have NE106 := Aside0.mk (Nat.ne_of_lt (Array.getElem?_eq_some_iff.1 X82.out).1)
    refine hK.out _ _ (HB102.out) (fun _ => ?_)
    clear hK K
    refine norm_ (a' := ?_) ?_ ?_
    rotate_left
    ·show Act.put _ (some 24) _ = _
     simp only [pS, pN, sB, sZ, sS]
     rfl
    refine restart_ (S2 := fun w' => Below w.heap.size w w' ∧ w'.cell? ⟨w83.heap.size, n2, none⟩ = some (.string s2)) (fun w' h => h.1) (⟨HB102.out, L103.out⟩) ?_
    refine pure_ (i := 16) (N := some 29) (v := ?_) (a' := ?_) (ba 33 3221092831) rfl rfl (any_of HT_.out (by kernel_rfl)) (fun _ _ _ h => hP _ _ _ _ _ h) (Or.inl ⟨by rfl, ?_⟩) ?_ ?_
    rotate_left
    ·intro w'; go_simp; with_reducible rfl
    rotate_left
    ·simp only [pS, pN, sB, sZ, sS, i64_w, i32_w]; rfl
    refine take_ (i := 17) (N := some 30) (v := ?_) (a' := ?_) (ba 33 3221223903) rfl rfl (take_ofW HT_.out HW_.out (by kernel_rfl)) (fun _ _ _ h => hP _ _ _ _ _ h) (Or.inl ⟨by rfl, ?_⟩) (⟨HB102.out, L103.out⟩) ?_ ?_
    rotate_left
    ·intro w' hS
     have hl_ := hS.2
     go_simp
     with_reducible rfl
    rotate_left
    ·simp only [pS, pN, sB, sZ, sS, i64_w, i32_w]; rfl
    refine one_ (i := 5) (N := some 18) (ba 33 3221223935) rfl rfl (one_of HT_.out (by kernel_rfl)) (by decide) (fun K hK => ?_)
    refine value_ (w1 := ?_) (v := ?_) (by rfl) rfl ?_ ?_
    rotate_left 2
    ·go_simp
     constructor
     ·rfl
     ·rfl
    have hb107 := Aside0.mk ((Below.refl _ w104).alloc (Nat.le_refl _) (.cells #[.string (⟨#[35]⟩ : ByteArray), .string (⟨#[97]⟩ : ByteArray), .string (⟨#[97, 47, 43]⟩ : ByteArray), .string (⟨#[98, 47, 35]⟩ : ByteArray)] 9))
    have HB108 := Aside0.mk (below_step HB102.out hb107.out)
    have L109 := Aside0.mk (HLA.out w104)
    have L111 := Aside0.mk ((hb107.out.cell (p := ⟨w83.heap.size, n2, none⟩) (block_lt_of_cell L103.out)).trans L103.out)
    have X112 := Aside0.mk ((hb107.out.block _ (Array.getElem?_eq_some_iff.1 X105.out).1).trans X105.out)
    generalize hW_ : w104.alloc (.cells #[.string (⟨#[35]⟩ : ByteArray), .string (⟨#[97]⟩ : ByteArray), .string (⟨#[97, 47, 43]⟩ : ByteArray), .string (⟨#[98, 47, 35]⟩ : ByteArray)] 9) = w110 at *
    clear hW_
    have NE113 := Aside0.mk (Nat.ne_of_lt (Array.getElem?_eq_some_iff.1 X105.out).1)
    refine hK.out _ _ (⟨HB108.out, L111.out⟩) (fun _ => ?_)
    clear hK K
    refine norm_ (a' := ?_) ?_ ?_
    rotate_left
    ·show Act.put _ (some 18) _ = _
     simp only [pS, pN, sB, sZ, sS]
     rfl
    refine restart_ (S2 := fun w' => Below w.heap.size w w' ∧ w'.cell? ⟨w83.heap.size, n2, none⟩ = some (.string s2) ∧ w'.cell? ⟨w104.heap.size, n1, none⟩ = some (.string s1)) (fun w' h => ⟨h.1, h.2.1⟩) (⟨HB108.out, L111.out, L109.out⟩) ?_
    refine pure_ (i := 9) (N := some 22) (v := ?_) (a' := ?_) (ba 33 3221224447) rfl rfl (any_of HT_.out (by kernel_rfl)) (fun _ _ _ h => hP _ _ _ _ _ h) (Or.inl ⟨by rfl, ?_⟩) ?_ ?_
    rotate_left
    ·intro w'; go_simp; with_reducible rfl
    rotate_left
    ·simp only [pS, pN, sB, sZ, sS, i64_w, i32_w]; rfl
    refine take_ (i := 10) (N := some 23) (v := ?_) (a' := ?_) (ba 33 3221225471) rfl rfl (take_ofW HT_.out HW_.out (by kernel_rfl)) (fun _ _ _ h => hP _ _ _ _ _ h) (Or.inl ⟨by rfl, ?_⟩) (⟨HB108.out, L111.out, L109.out⟩) ?_ ?_
    rotate_left
    ·intro w' hS
     have hl_ := hS.2.2
     go_simp
     with_reducible rfl
    rotate_left
    ·simp only [pS, pN, sB, sZ, sS, i64_w, i32_w]; rfl
    refine pure_ (i := 30) (N := some 43) (v := ?_) (a' := ?_) (ba 33 4294967295) rfl rfl (any_of HT_.out (by kernel_rfl)) (fun _ _ _ h => hP _ _ _ _ _ h) (Or.inl ⟨by rfl, ?_⟩) ?_ ?_
    rotate_left
    ·intro w'; go_simp; with_reducible rfl
    rotate_left
    ·simp only [pS, pN, sB, sZ, sS, i64_w, i32_w]; rfl
    refine one_ (i := 32) (N := none) (ba 33 8589934591) rfl rfl (one_of HT_.out (by kernel_rfl)) (by decide) (fun K hK => ?_)
    rw [if_pos (by rfl)]
    refine wp_store_row 46 _ _ rfl (w1.heap.size) (vR a1 a3 t2 t3 t4 tx s1 s2) rfl rfl 46 #[.int .i64 0, .string ⟨#[]⟩, .string ⟨#[]⟩, .string ⟨#[]⟩, .int .i64 0, .int .i64 0, .int .i64 0, .slice none 0 0, .slice none 0 0, .string ⟨#[]⟩] X112.out size46 rfl (one46 _ _ _ _ _ _ _ _) ?_
    have HB114 := Aside0.mk (below_setRow HB108.out GX84.out (vR a1 a3 t2 t3 t4 tx s1 s2))
    have HF_ := Aside0.mk (setRow_heap _ _ _ (vR a1 a3 t2 t3 t4 tx s1 s2) _ _ X112.out)
    have L115 := Aside0.mk ((cell_setRow_other _ _ (vR a1 a3 t2 t3 t4 tx s1 s2) _ NE106.out.symm).trans L111.out)
    have L116 := Aside0.mk ((cell_setRow_other _ _ (vR a1 a3 t2 t3 t4 tx s1 s2) _ NE113.out.symm).trans L109.out)
    refine hK.out _ _ (⟨HB114.out, L115.out, L116.out⟩) (fun _ => ?_)
    clear hK K
    refine done_ (done_of HT_.out (by kernel_rfl)) ?_
    exact HQ.out _ _ _ _ _ _ _ _ _ _ _ _ _ _ _ _ _ _ _ _ _ _ _ _ _ _ _ _ _ _ _ (w1.heap.size) _ GX84.out HB114.out HF_.out
 ·skip
  refine value_ (w1 := ?_) (v := ?_) (by rfl) rfl ?_ ?_
  rotate_left 2
  ·go_simp
   constructor
   ·rfl
   ·rfl
  have hb117 := Aside0.mk ((Below.refl _ w0).alloc (Nat.le_refl _) (.cells #[.string (⟨#[35]⟩ : ByteArray), .string (⟨#[97]⟩ : ByteArray), .string (⟨#[97, 47, 43]⟩ : ByteArray), .string (⟨#[98, 47, 35]⟩ : ByteArray)] 9))
  have HB118 := Aside0.mk (below_step HB0.out hb117.out)
  have L119 := Aside0.mk (HLA.out w0)
  generalize hW_ : w0.alloc (.cells #[.string (⟨#[35]⟩ : ByteArray), .string (⟨#[97]⟩ : ByteArray), .string (⟨#[97, 47, 43]⟩ : ByteArray), .string (⟨#[98, 47, 35]⟩ : ByteArray)] 9) = w120 at *
  clear hW_
  refine hK.out _ _ (HB118.out) (fun _ => ?_)
  clear hK K
  refine norm_ (a' := ?_) ?_ ?_
  rotate_left
  ·show Act.put _ (some 18) _ = _
   simp only [pS, pN, sB, sZ, sS]
   rfl
  refine restart_ (S2 := fun w' => Below w.heap.size w w' ∧ w'.cell? ⟨w0.heap.size, n1, none⟩ = some (.string s1)) (fun w' h => h.1) (⟨HB118.out, L119.out⟩) ?_
  refine three_ (i := 3) (j := 11) (k := 31) (Ni := some 16) (Nj := some 24) (Nk := some 9) (ba 33 340004975) (ba 33 340007015) (ba 33 2487488615) rfl rfl rfl rfl rfl rfl (three_of HT_.out (by kernel_rfl)) (by decide) (by decide) (by decide) (fun K hK => ?_) (fun K hK => ?_) (fun K hK => ?_)
  ·skip
   refine goes_ Try.func35 (by kernel_rfl) rfl #[.int .i64 t0, .int .i64 19] (by rfl) rfl rfl (by (try simp only [List.map_toArray, List.map_cons, List.map_nil]); first | done | rfl) ?_
   with_reducible refine (roadsteadlaw10_text.calls k t0 19 tx _ HX.out).mono ?_
   rintro e w121 ⟨rfl, hb0_⟩
   refine ⟨_, rfl, ?_⟩
   have hb122 := Aside0.mk hb0_
   clear hb0_
   have HB123 := Aside0.mk (below_step HB118.out hb122.out)
   have L124 := Aside0.mk ((hb122.out.cell (p := ⟨w0.heap.size, n1, none⟩) (block_lt_of_cell L119.out)).trans L119.out)
   refine hK.out _ _ (⟨HB123.out, L124.out⟩) (fun _ => ?_)
   clear hK K
   refine norm_ (a' := ?_) ?_ ?_
   rotate_left
   ·show Act.put _ (some 16) _ = _
    simp only [pS, pN, sB, sZ, sS]
    rfl
   refine pure_ (i := 4) (N := some 17) (v := ?_) (a' := ?_) (ba 33 340004991) rfl rfl (any_of HT_.out (by kernel_rfl)) (fun _ _ _ h => hP _ _ _ _ _ h) (Or.inl ⟨by rfl, ?_⟩) ?_ ?_
   rotate_left
   ·intro w'; go_simp; with_reducible rfl
   rotate_left
   ·simp only [pS, pN, sB, sZ, sS, i64_w, i32_w]; rfl
   refine quiet_ (i := 7) (N := some 20) (a' := ?_) (ba 33 340005119) rfl rfl (take_ofW HT_.out HW_.out (by kernel_rfl)) (fun _ _ _ h => hP _ _ _ _ _ h) (quiet_call Try.func22 (by kernel_rfl) rfl #[.slice A0 l0.length c0, .int .i64 1] (by rfl) rfl (by (try simp only [List.map_toArray, List.map_cons, List.map_nil]); first | done | rfl) (fun w' hS => g_quiet _ _ l0 1 t1 w' (Kd.C_below HR.out (hS.1)) HC.out H1.out)) (⟨HB123.out, L124.out⟩) ?_ ?_
   rotate_left
   ·simp only [pS, pN, sB, sZ, sS, i64_w, i32_w]; rfl
   refine pure_ (i := 8) (N := some 21) (v := ?_) (a' := ?_) (ba 33 340005375) rfl rfl (any_of HT_.out (by kernel_rfl)) (fun _ _ _ h => hP _ _ _ _ _ h) (Or.inl ⟨by rfl, ?_⟩) ?_ ?_
   rotate_left
   ·intro w'; go_simp; with_reducible rfl
   rotate_left
   ·simp only [pS, pN, sB, sZ, sS, i64_w, i32_w]; rfl
   refine pure_ (i := 9) (N := some 22) (v := ?_) (a' := ?_) (ba 33 340005887) rfl rfl (any_of HT_.out (by kernel_rfl)) (fun _ _ _ h => hP _ _ _ _ _ h) (Or.inl ⟨by rfl, ?_⟩) ?_ ?_
   rotate_left
   ·intro w'; go_simp; with_reducible rfl
   rotate_left
   ·simp only [pS, pN, sB, sZ, sS, i64_w, i32_w]; rfl
   refine take_ (i := 10) (N := some 23) (v := ?_) (a' := ?_) (ba 33 340006911) rfl rfl (take_ofW HT_.out HW_.out (by kernel_rfl)) (fun _ _ _ h => hP _ _ _ _ _ h) (Or.inl ⟨by rfl, ?_⟩) (⟨HB123.out, L124.out⟩) ?_ ?_
   rotate_left
   ·intro w' hS
    have hl_ := hS.2
    go_simp
    with_reducible rfl
   rotate_left
   ·simp only [pS, pN, sB, sZ, sS, i64_w, i32_w]; rfl
   refine quiet_ (i := 13) (N := some 26) (a' := ?_) (ba 33 340015103) rfl rfl (take_ofW HT_.out HW_.out (by kernel_rfl)) (fun _ _ _ h => hP _ _ _ _ _ h) (quiet_call Try.func22 (by kernel_rfl) rfl #[.slice A0 l0.length c0, .int .i64 1] (by rfl) rfl (by (try simp only [List.map_toArray, List.map_cons, List.map_nil]); first | done | rfl) (fun w' hS => g_quiet _ _ l0 1 t1 w' (Kd.C_below HR.out (hS.1)) HC.out H1.out)) (⟨HB123.out, L124.out⟩) ?_ ?_
   rotate_left
   ·simp only [pS, pN, sB, sZ, sS, i64_w, i32_w]; rfl
   refine pure_ (i := 14) (N := some 27) (v := ?_) (a' := ?_) (ba 33 340031487) rfl rfl (any_of HT_.out (by kernel_rfl)) (fun _ _ _ h => hP _ _ _ _ _ h) (Or.inl ⟨by rfl, ?_⟩) ?_ ?_
   rotate_left
   ·intro w'; go_simp; with_reducible rfl
   rotate_left
   ·simp only [pS, pN, sB, sZ, sS, i64_w, i32_w]; rfl
   refine pure_ (i := 15) (N := some 28) (v := ?_) (a' := ?_) (ba 33 340064255) rfl rfl (any_of HT_.out (by kernel_rfl)) (fun _ _ _ h => hP _ _ _ _ _ h) (Or.inl ⟨by rfl, ?_⟩) ?_ ?_
   rotate_left
   ·intro w'; go_simp; with_reducible rfl
   rotate_left
   ·simp only [pS, pN, sB, sZ, sS, i64_w, i32_w]; rfl
   refine quiet_ (i := 19) (N := some 32) (a' := ?_) (ba 33 340588543) rfl rfl (take_ofW HT_.out HW_.out (by kernel_rfl)) (fun _ _ _ h => hP _ _ _ _ _ h) (quiet_call Try.func22 (by kernel_rfl) rfl #[.slice A0 l0.length c0, .int .i64 2] (by rfl) rfl (by (try simp only [List.map_toArray, List.map_cons, List.map_nil]); first | done | rfl) (fun w' hS => g_quiet _ _ l0 2 t2 w' (Kd.C_below HR.out (hS.1)) HC.out H2.out)) (⟨HB123.out, L124.out⟩) ?_ ?_
   rotate_left
   ·simp only [pS, pN, sB, sZ, sS, i64_w, i32_w]; rfl
   refine pure_ (i := 20) (N := some 33) (v := ?_) (a' := ?_) (ba 33 341637119) rfl rfl (any_of HT_.out (by kernel_rfl)) (fun _ _ _ h => hP _ _ _ _ _ h) (Or.inl ⟨by rfl, ?_⟩) ?_ ?_
   rotate_left
   ·intro w'; go_simp; with_reducible rfl
   rotate_left
   ·simp only [pS, pN, sB, sZ, sS, i64_w, i32_w]; rfl
   refine pure_ (i := 21) (N := some 34) (v := ?_) (a' := ?_) (ba 33 343734271) rfl rfl (any_of HT_.out (by kernel_rfl)) (fun _ _ _ h => hP _ _ _ _ _ h) (Or.inl ⟨by rfl, ?_⟩) ?_ ?_
   rotate_left
   ·intro w'; go_simp; with_reducible rfl
   rotate_left
   ·simp only [pS, pN, sB, sZ, sS, i64_w, i32_w]; rfl
   refine quiet_ (i := 23) (N := some 36) (a' := ?_) (ba 33 352122879) rfl rfl (take_ofW HT_.out HW_.out (by kernel_rfl)) (fun _ _ _ h => hP _ _ _ _ _ h) (quiet_call Try.func22 (by kernel_rfl) rfl #[.slice A0 l0.length c0, .int .i64 3] (by rfl) rfl (by (try simp only [List.map_toArray, List.map_cons, List.map_nil]); first | done | rfl) (fun w' hS => g_quiet _ _ l0 3 t3 w' (Kd.C_below HR.out (hS.1)) HC.out H3.out)) (⟨HB123.out, L124.out⟩) ?_ ?_
   rotate_left
   ·simp only [pS, pN, sB, sZ, sS, i64_w, i32_w]; rfl
   refine pure_ (i := 24) (N := some 37) (v := ?_) (a' := ?_) (ba 33 368900095) rfl rfl (any_of HT_.out (by kernel_rfl)) (fun _ _ _ h => hP _ _ _ _ _ h) (Or.inl ⟨by rfl, ?_⟩) ?_ ?_
   rotate_left
   ·intro w'; go_simp; with_reducible rfl
   rotate_left
   ·simp only [pS, pN, sB, sZ, sS, i64_w, i32_w]; rfl
   refine pure_ (i := 25) (N := some 38) (v := ?_) (a' := ?_) (ba 33 402454527) rfl rfl (any_of HT_.out (by kernel_rfl)) (fun _ _ _ h => hP _ _ _ _ _ h) (Or.inl ⟨by rfl, ?_⟩) ?_ ?_
   rotate_left
   ·intro w'; go_simp; with_reducible rfl
   rotate_left
   ·simp only [pS, pN, sB, sZ, sS, i64_w, i32_w]; rfl
   refine quiet_ (i := 27) (N := some 40) (a' := ?_) (ba 33 536672255) rfl rfl (take_ofW HT_.out HW_.out (by kernel_rfl)) (fun _ _ _ h => hP _ _ _ _ _ h) (quiet_call Try.func22 (by kernel_rfl) rfl #[.slice A0 l0.length c0, .int .i64 4] (by rfl) rfl (by (try simp only [List.map_toArray, List.map_cons, List.map_nil]); first | done | rfl) (fun w' hS => g_quiet _ _ l0 4 t4 w' (Kd.C_below HR.out (hS.1)) HC.out H4.out)) (⟨HB123.out, L124.out⟩) ?_ ?_
   rotate_left
   ·simp only [pS, pN, sB, sZ, sS, i64_w, i32_w]; rfl
   refine pure_ (i := 29) (N := some 42) (v := ?_) (a' := ?_) (ba 33 1073543167) rfl rfl (any_of HT_.out (by kernel_rfl)) (fun _ _ _ h => hP _ _ _ _ _ h) (Or.inl ⟨by rfl, ?_⟩) ?_ ?_
   rotate_left
   ·intro w'; go_simp; with_reducible rfl
   rotate_left
   ·simp only [pS, pN, sB, sZ, sS, i64_w, i32_w]; rfl
   refine two_ (i := 11) (j := 31) (Ni := some 24) (Nj := some 9) (ba 33 1073545215) (ba 33 3221026815) rfl rfl rfl rfl (two_of HT_.out (by kernel_rfl)) (by decide) (by decide) (fun K hK => ?_) (fun K hK => ?_)
   ·skip
    refine value_ (w1 := ?_) (v := ?_) (by rfl) rfl ?_ ?_
    rotate_left 2
    ·go_simp
     constructor
     ·rfl
     ·rfl
    have hb125 := Aside0.mk ((Below.refl _ w121).alloc (Nat.le_refl _) (.cells #[.string ⟨#[]⟩, .string (⟨#[97, 61, 49]⟩ : ByteArray), .string (⟨#[97, 61, 49, 44, 98, 61, 50]⟩ : ByteArray)] 9))
    have HB126 := Aside0.mk (below_step HB123.out hb125.out)
    have L127 := Aside0.mk (HLB.out w121)
    have L129 := Aside0.mk ((hb125.out.cell (p := ⟨w0.heap.size, n1, none⟩) (block_lt_of_cell L124.out)).trans L124.out)
    generalize hW_ : w121.alloc (.cells #[.string ⟨#[]⟩, .string (⟨#[97, 61, 49]⟩ : ByteArray), .string (⟨#[97, 61, 49, 44, 98, 61, 50]⟩ : ByteArray)] 9) = w128 at *
    clear hW_
    refine hK.out _ _ (⟨HB126.out, L129.out⟩) (fun _ => ?_)
    clear hK K
    refine norm_ (a' := ?_) ?_ ?_
    rotate_left
    ·show Act.put _ (some 24) _ = _
     simp only [pS, pN, sB, sZ, sS]
     rfl
    refine restart_ (S2 := fun w' => Below w.heap.size w w' ∧ w'.cell? ⟨w0.heap.size, n1, none⟩ = some (.string s1) ∧ w'.cell? ⟨w121.heap.size, n2, none⟩ = some (.string s2)) (fun w' h => ⟨h.1, h.2.1⟩) (⟨HB126.out, L129.out, L127.out⟩) ?_
    refine pure_ (i := 16) (N := some 29) (v := ?_) (a' := ?_) (ba 33 1073610751) rfl rfl (any_of HT_.out (by kernel_rfl)) (fun _ _ _ h => hP _ _ _ _ _ h) (Or.inl ⟨by rfl, ?_⟩) ?_ ?_
    rotate_left
    ·intro w'; go_simp; with_reducible rfl
    rotate_left
    ·simp only [pS, pN, sB, sZ, sS, i64_w, i32_w]; rfl
    refine take_ (i := 17) (N := some 30) (v := ?_) (a' := ?_) (ba 33 1073741823) rfl rfl (take_ofW HT_.out HW_.out (by kernel_rfl)) (fun _ _ _ h => hP _ _ _ _ _ h) (Or.inl ⟨by rfl, ?_⟩) (⟨HB126.out, L129.out, L127.out⟩) ?_ ?_
    rotate_left
    ·intro w' hS
     have hl_ := hS.2.2
     go_simp
     with_reducible rfl
    rotate_left
    ·simp only [pS, pN, sB, sZ, sS, i64_w, i32_w]; rfl
    refine pure_ (i := 30) (N := some 43) (v := ?_) (a' := ?_) (ba 33 2147483647) rfl rfl (any_of HT_.out (by kernel_rfl)) (fun _ _ _ h => hP _ _ _ _ _ h) (Or.inl ⟨by rfl, ?_⟩) ?_ ?_
    rotate_left
    ·intro w'; go_simp; with_reducible rfl
    rotate_left
    ·simp only [pS, pN, sB, sZ, sS, i64_w, i32_w]; rfl
    refine one_ (i := 31) (N := some 9) (ba 33 4294967295) rfl rfl (one_of HT_.out (by kernel_rfl)) (by decide) (fun K hK => ?_)
    refine value_ (w1 := ?_) (v := ?_) (by rfl) rfl ?_ ?_
    rotate_left 2
    ·go_simp
     constructor
     ·rfl
     ·rfl
    have hb130 := Aside0.mk ((Below.refl _ w128).alloc (Nat.le_refl _) (.cells #[.int .i64 0, .string ⟨#[]⟩, .string ⟨#[]⟩, .string ⟨#[]⟩, .int .i64 0, .int .i64 0, .int .i64 0, .slice none 0 0, .slice none 0 0, .string ⟨#[]⟩] 46))
    have HB131 := Aside0.mk (below_step HB126.out hb130.out)
    have X132 := Aside0.mk (heap_alloc_new w128 (.cells #[.int .i64 0, .string ⟨#[]⟩, .string ⟨#[]⟩, .string ⟨#[]⟩, .int .i64 0, .int .i64 0, .int .i64 0, .slice none 0 0, .slice none 0 0, .string ⟨#[]⟩] 46))
    have L134 := Aside0.mk ((hb130.out.cell (p := ⟨w0.heap.size, n1, none⟩) (block_lt_of_cell L129.out)).trans L129.out)
    have L135 := Aside0.mk ((hb130.out.cell (p := ⟨w121.heap.size, n2, none⟩) (block_lt_of_cell L127.out)).trans L127.out)
    generalize hW_ : w128.alloc (.cells #[.int .i64 0, .string ⟨#[]⟩, .string ⟨#[]⟩, .string ⟨#[]⟩, .int .i64 0, .int .i64 0, .int .i64 0, .slice none 0 0, .slice none 0 0, .string ⟨#[]⟩] 46) = w133 at *
    clear hW_
    have NE136 := Aside0.mk (Nat.ne_of_gt (block_lt_of_cell L129.out))
    have NE137 := Aside0.mk (Nat.ne_of_gt (block_lt_of_cell L127.out))
    have GX138 := Aside0.mk (HB126.out.size)
    refine hK.out _ _ (⟨HB131.out, L134.out, L135.out⟩) (fun _ => ?_)
    clear hK K
    refine norm_ (a' := ?_) ?_ ?_
    rotate_left
    ·show Act.put _ (some 9) _ = _
     simp only [pS, pN, sB, sZ, sS]
     rfl
    refine one_ (i := 32) (N := none) (ba 33 8589934591) rfl rfl (one_of HT_.out (by kernel_rfl)) (by decide) (fun K hK => ?_)
    rw [if_pos (by rfl)]
    refine wp_store_row 46 _ _ rfl (w128.heap.size) (vR a1 a3 t2 t3 t4 tx s1 s2) rfl rfl 46 #[.int .i64 0, .string ⟨#[]⟩, .string ⟨#[]⟩, .string ⟨#[]⟩, .int .i64 0, .int .i64 0, .int .i64 0, .slice none 0 0, .slice none 0 0, .string ⟨#[]⟩] X132.out size46 rfl (one46 _ _ _ _ _ _ _ _) ?_
    have HB139 := Aside0.mk (below_setRow HB131.out GX138.out (vR a1 a3 t2 t3 t4 tx s1 s2))
    have HF_ := Aside0.mk (setRow_heap _ _ _ (vR a1 a3 t2 t3 t4 tx s1 s2) _ _ X132.out)
    have L140 := Aside0.mk ((cell_setRow_other _ _ (vR a1 a3 t2 t3 t4 tx s1 s2) _ NE136.out.symm).trans L134.out)
    have L141 := Aside0.mk ((cell_setRow_other _ _ (vR a1 a3 t2 t3 t4 tx s1 s2) _ NE137.out.symm).trans L135.out)
    refine hK.out _ _ (⟨HB139.out, L140.out, L141.out⟩) (fun _ => ?_)
    clear hK K
    refine done_ (done_of HT_.out (by kernel_rfl)) ?_
    exact HQ.out _ _ _ _ _ _ _ _ _ _ _ _ _ _ _ _ _ _ _ _ _ _ _ _ _ _ _ _ _ _ _ (w128.heap.size) _ GX138.out HB139.out HF_.out
   ·skip
    refine value_ (w1 := ?_) (v := ?_) (by rfl) rfl ?_ ?_
    rotate_left 2
    ·go_simp
     constructor
     ·rfl
     ·rfl
    have hb142 := Aside0.mk ((Below.refl _ w121).alloc (Nat.le_refl _) (.cells #[.int .i64 0, .string ⟨#[]⟩, .string ⟨#[]⟩, .string ⟨#[]⟩, .int .i64 0, .int .i64 0, .int .i64 0, .slice none 0 0, .slice none 0 0, .string ⟨#[]⟩] 46))
    have HB143 := Aside0.mk (below_step HB123.out hb142.out)
    have X144 := Aside0.mk (heap_alloc_new w121 (.cells #[.int .i64 0, .string ⟨#[]⟩, .string ⟨#[]⟩, .string ⟨#[]⟩, .int .i64 0, .int .i64 0, .int .i64 0, .slice none 0 0, .slice none 0 0, .string ⟨#[]⟩] 46))
    have L146 := Aside0.mk ((hb142.out.cell (p := ⟨w0.heap.size, n1, none⟩) (block_lt_of_cell L124.out)).trans L124.out)
    generalize hW_ : w121.alloc (.cells #[.int .i64 0, .string ⟨#[]⟩, .string ⟨#[]⟩, .string ⟨#[]⟩, .int .i64 0, .int .i64 0, .int .i64 0, .slice none 0 0, .slice none 0 0, .string ⟨#[]⟩] 46) = w145 at *
    clear hW_
    have NE147 := Aside0.mk (Nat.ne_of_gt (block_lt_of_cell L124.out))
    have GX148 := Aside0.mk (HB123.out.size)
    refine hK.out _ _ (⟨HB143.out, L146.out⟩) (fun _ => ?_)
    clear hK K
    refine norm_ (a' := ?_) ?_ ?_
    rotate_left
    ·show Act.put _ (some 9) _ = _
     simp only [pS, pN, sB, sZ, sS]
     rfl
    refine one_ (i := 11) (N := some 24) (ba 33 3221028863) rfl rfl (one_of HT_.out (by kernel_rfl)) (by decide) (fun K hK => ?_)
    refine value_ (w1 := ?_) (v := ?_) (by rfl) rfl ?_ ?_
    rotate_left 2
    ·go_simp
     constructor
     ·rfl
     ·rfl
    have hb149 := Aside0.mk ((Below.refl _ w145).alloc (Nat.le_refl _) (.cells #[.string ⟨#[]⟩, .string (⟨#[97, 61, 49]⟩ : ByteArray), .string (⟨#[97, 61, 49, 44, 98, 61, 50]⟩ : ByteArray)] 9))
    have HB150 := Aside0.mk (below_step HB143.out hb149.out)
    have L151 := Aside0.mk (HLB.out w145)
    have L153 := Aside0.mk ((hb149.out.cell (p := ⟨w0.heap.size, n1, none⟩) (block_lt_of_cell L146.out)).trans L146.out)
    have X154 := Aside0.mk ((hb149.out.block _ (Array.getElem?_eq_some_iff.1 X144.out).1).trans X144.out)
    generalize hW_ : w145.alloc (.cells #[.string ⟨#[]⟩, .string (⟨#[97, 61, 49]⟩ : ByteArray), .string (⟨#[97, 61, 49, 44, 98, 61, 50]⟩ : ByteArray)] 9) = w152 at *
    clear hW_
    have NE155 := Aside0.mk (Nat.ne_of_lt (Array.getElem?_eq_some_iff.1 X144.out).1)
    refine hK.out _ _ (⟨HB150.out, L153.out⟩) (fun _ => ?_)
    clear hK K
    refine norm_ (a' := ?_) ?_ ?_
    rotate_left
    ·show Act.put _ (some 24) _ = _
     simp only [pS, pN, sB, sZ, sS]
     rfl
    refine restart_ (S2 := fun w' => Below w.heap.size w w' ∧ w'.cell? ⟨w0.heap.size, n1, none⟩ = some (.string s1) ∧ w'.cell? ⟨w145.heap.size, n2, none⟩ = some (.string s2)) (fun w' h => ⟨h.1, h.2.1⟩) (⟨HB150.out, L153.out, L151.out⟩) ?_
    refine pure_ (i := 16) (N := some 29) (v := ?_) (a' := ?_) (ba 33 3221094399) rfl rfl (any_of HT_.out (by kernel_rfl)) (fun _ _ _ h => hP _ _ _ _ _ h) (Or.inl ⟨by rfl, ?_⟩) ?_ ?_
    rotate_left
    ·intro w'; go_simp; with_reducible rfl
    rotate_left
    ·simp only [pS, pN, sB, sZ, sS, i64_w, i32_w]; rfl
    refine take_ (i := 17) (N := some 30) (v := ?_) (a' := ?_) (ba 33 3221225471) rfl rfl (take_ofW HT_.out HW_.out (by kernel_rfl)) (fun _ _ _ h => hP _ _ _ _ _ h) (Or.inl ⟨by rfl, ?_⟩) (⟨HB150.out, L153.out, L151.out⟩) ?_ ?_
    rotate_left
    ·intro w' hS
     have hl_ := hS.2.2
     go_simp
     with_reducible rfl
    rotate_left
    ·simp only [pS, pN, sB, sZ, sS, i64_w, i32_w]; rfl
    refine pure_ (i := 30) (N := some 43) (v := ?_) (a' := ?_) (ba 33 4294967295) rfl rfl (any_of HT_.out (by kernel_rfl)) (fun _ _ _ h => hP _ _ _ _ _ h) (Or.inl ⟨by rfl, ?_⟩) ?_ ?_
    rotate_left
    ·intro w'; go_simp; with_reducible rfl
    rotate_left
    ·simp only [pS, pN, sB, sZ, sS, i64_w, i32_w]; rfl
    refine one_ (i := 32) (N := none) (ba 33 8589934591) rfl rfl (one_of HT_.out (by kernel_rfl)) (by decide) (fun K hK => ?_)
    rw [if_pos (by rfl)]
    refine wp_store_row 46 _ _ rfl (w121.heap.size) (vR a1 a3 t2 t3 t4 tx s1 s2) rfl rfl 46 #[.int .i64 0, .string ⟨#[]⟩, .string ⟨#[]⟩, .string ⟨#[]⟩, .int .i64 0, .int .i64 0, .int .i64 0, .slice none 0 0, .slice none 0 0, .string ⟨#[]⟩] X154.out size46 rfl (one46 _ _ _ _ _ _ _ _) ?_
    have HB156 := Aside0.mk (below_setRow HB150.out GX148.out (vR a1 a3 t2 t3 t4 tx s1 s2))
    have HF_ := Aside0.mk (setRow_heap _ _ _ (vR a1 a3 t2 t3 t4 tx s1 s2) _ _ X154.out)
    have L157 := Aside0.mk ((cell_setRow_other _ _ (vR a1 a3 t2 t3 t4 tx s1 s2) _ NE147.out.symm).trans L153.out)
    have L158 := Aside0.mk ((cell_setRow_other _ _ (vR a1 a3 t2 t3 t4 tx s1 s2) _ NE155.out.symm).trans L151.out)
    refine hK.out _ _ (⟨HB156.out, L157.out, L158.out⟩) (fun _ => ?_)
    clear hK K
    refine done_ (done_of HT_.out (by kernel_rfl)) ?_
    exact HQ.out _ _ _ _ _ _ _ _ _ _ _ _ _ _ _ _ _ _ _ _ _ _ _ _ _ _ _ _ _ _ _ (w121.heap.size) _ GX148.out HB156.out HF_.out
  ·skip
   refine value_ (w1 := ?_) (v := ?_) (by rfl) rfl ?_ ?_
   rotate_left 2
   ·go_simp
    constructor
    ·rfl
    ·rfl
   have hb159 := Aside0.mk ((Below.refl _ w120).alloc (Nat.le_refl _) (.cells #[.string ⟨#[]⟩, .string (⟨#[97, 61, 49]⟩ : ByteArray), .string (⟨#[97, 61, 49, 44, 98, 61, 50]⟩ : ByteArray)] 9))
   have HB160 := Aside0.mk (below_step HB118.out hb159.out)
   have L161 := Aside0.mk (HLB.out w120)
   have L163 := Aside0.mk ((hb159.out.cell (p := ⟨w0.heap.size, n1, none⟩) (block_lt_of_cell L119.out)).trans L119.out)
   generalize hW_ : w120.alloc (.cells #[.string ⟨#[]⟩, .string (⟨#[97, 61, 49]⟩ : ByteArray), .string (⟨#[97, 61, 49, 44, 98, 61, 50]⟩ : ByteArray)] 9) = w162 at *
   clear hW_
   refine hK.out _ _ (⟨HB160.out, L163.out⟩) (fun _ => ?_)
   clear hK K
   refine norm_ (a' := ?_) ?_ ?_
   rotate_left
   ·show Act.put _ (some 24) _ = _
    simp only [pS, pN, sB, sZ, sS]
    rfl
   refine restart_ (S2 := fun w' => Below w.heap.size w w' ∧ w'.cell? ⟨w0.heap.size, n1, none⟩ = some (.string s1) ∧ w'.cell? ⟨w120.heap.size, n2, none⟩ = some (.string s2)) (fun w' h => ⟨h.1, h.2.1⟩) (⟨HB160.out, L163.out, L161.out⟩) ?_
   refine two_ (i := 3) (j := 31) (Ni := some 16) (Nj := some 9) (ba 33 340007023) (ba 33 2487490663) rfl rfl rfl rfl (two_of HT_.out (by kernel_rfl)) (by decide) (by decide) (fun K hK => ?_) (fun K hK => ?_)
   ·skip
    refine goes_ Try.func35 (by kernel_rfl) rfl #[.int .i64 t0, .int .i64 19] (by rfl) rfl rfl (by (try simp only [List.map_toArray, List.map_cons, List.map_nil]); first | done | rfl) ?_
    with_reducible refine (roadsteadlaw10_text.calls k t0 19 tx _ HX.out).mono ?_
    rintro e w164 ⟨rfl, hb0_⟩
    refine ⟨_, rfl, ?_⟩
    have hb165 := Aside0.mk hb0_
    clear hb0_
    have HB166 := Aside0.mk (below_step HB160.out hb165.out)
    have L167 := Aside0.mk ((hb165.out.cell (p := ⟨w0.heap.size, n1, none⟩) (block_lt_of_cell L163.out)).trans L163.out)
    have L168 := Aside0.mk ((hb165.out.cell (p := ⟨w120.heap.size, n2, none⟩) (block_lt_of_cell L161.out)).trans L161.out)
    refine hK.out _ _ (⟨HB166.out, L167.out, L168.out⟩) (fun _ => ?_)
    clear hK K
    refine norm_ (a' := ?_) ?_ ?_
    rotate_left
    ·show Act.put _ (some 16) _ = _
     simp only [pS, pN, sB, sZ, sS]
     rfl
    refine pure_ (i := 4) (N := some 17) (v := ?_) (a' := ?_) (ba 33 340007039) rfl rfl (any_of HT_.out (by kernel_rfl)) (fun _ _ _ h => hP _ _ _ _ _ h) (Or.inl ⟨by rfl, ?_⟩) ?_ ?_
    rotate_left
    ·intro w'; go_simp; with_reducible rfl
    rotate_left
    ·simp only [pS, pN, sB, sZ, sS, i64_w, i32_w]; rfl
    refine quiet_ (i := 7) (N := some 20) (a' := ?_) (ba 33 340007167) rfl rfl (take_ofW HT_.out HW_.out (by kernel_rfl)) (fun _ _ _ h => hP _ _ _ _ _ h) (quiet_call Try.func22 (by kernel_rfl) rfl #[.slice A0 l0.length c0, .int .i64 1] (by rfl) rfl (by (try simp only [List.map_toArray, List.map_cons, List.map_nil]); first | done | rfl) (fun w' hS => g_quiet _ _ l0 1 t1 w' (Kd.C_below HR.out (hS.1)) HC.out H1.out)) (⟨HB166.out, L167.out, L168.out⟩) ?_ ?_
    rotate_left
    ·simp only [pS, pN, sB, sZ, sS, i64_w, i32_w]; rfl
    refine pure_ (i := 8) (N := some 21) (v := ?_) (a' := ?_) (ba 33 340007423) rfl rfl (any_of HT_.out (by kernel_rfl)) (fun _ _ _ h => hP _ _ _ _ _ h) (Or.inl ⟨by rfl, ?_⟩) ?_ ?_
    rotate_left
    ·intro w'; go_simp; with_reducible rfl
    rotate_left
    ·simp only [pS, pN, sB, sZ, sS, i64_w, i32_w]; rfl
    refine pure_ (i := 9) (N := some 22) (v := ?_) (a' := ?_) (ba 33 340007935) rfl rfl (any_of HT_.out (by kernel_rfl)) (fun _ _ _ h => hP _ _ _ _ _ h) (Or.inl ⟨by rfl, ?_⟩) ?_ ?_
    rotate_left
    ·intro w'; go_simp; with_reducible rfl
    rotate_left
    ·simp only [pS, pN, sB, sZ, sS, i64_w, i32_w]; rfl
    refine take_ (i := 10) (N := some 23) (v := ?_) (a' := ?_) (ba 33 340008959) rfl rfl (take_ofW HT_.out HW_.out (by kernel_rfl)) (fun _ _ _ h => hP _ _ _ _ _ h) (Or.inl ⟨by rfl, ?_⟩) (⟨HB166.out, L167.out, L168.out⟩) ?_ ?_
    rotate_left
    ·intro w' hS
     have hl_ := hS.2.1
     go_simp
     with_reducible rfl
    rotate_left
    ·simp only [pS, pN, sB, sZ, sS, i64_w, i32_w]; rfl
    refine quiet_ (i := 13) (N := some 26) (a' := ?_) (ba 33 340017151) rfl rfl (take_ofW HT_.out HW_.out (by kernel_rfl)) (fun _ _ _ h => hP _ _ _ _ _ h) (quiet_call Try.func22 (by kernel_rfl) rfl #[.slice A0 l0.length c0, .int .i64 1] (by rfl) rfl (by (try simp only [List.map_toArray, List.map_cons, List.map_nil]); first | done | rfl) (fun w' hS => g_quiet _ _ l0 1 t1 w' (Kd.C_below HR.out (hS.1)) HC.out H1.out)) (⟨HB166.out, L167.out, L168.out⟩) ?_ ?_
    rotate_left
    ·simp only [pS, pN, sB, sZ, sS, i64_w, i32_w]; rfl
    refine pure_ (i := 14) (N := some 27) (v := ?_) (a' := ?_) (ba 33 340033535) rfl rfl (any_of HT_.out (by kernel_rfl)) (fun _ _ _ h => hP _ _ _ _ _ h) (Or.inl ⟨by rfl, ?_⟩) ?_ ?_
    rotate_left
    ·intro w'; go_simp; with_reducible rfl
    rotate_left
    ·simp only [pS, pN, sB, sZ, sS, i64_w, i32_w]; rfl
    refine pure_ (i := 15) (N := some 28) (v := ?_) (a' := ?_) (ba 33 340066303) rfl rfl (any_of HT_.out (by kernel_rfl)) (fun _ _ _ h => hP _ _ _ _ _ h) (Or.inl ⟨by rfl, ?_⟩) ?_ ?_
    rotate_left
    ·intro w'; go_simp; with_reducible rfl
    rotate_left
    ·simp only [pS, pN, sB, sZ, sS, i64_w, i32_w]; rfl
    refine pure_ (i := 16) (N := some 29) (v := ?_) (a' := ?_) (ba 33 340131839) rfl rfl (any_of HT_.out (by kernel_rfl)) (fun _ _ _ h => hP _ _ _ _ _ h) (Or.inl ⟨by rfl, ?_⟩) ?_ ?_
    rotate_left
    ·intro w'; go_simp; with_reducible rfl
    rotate_left
    ·simp only [pS, pN, sB, sZ, sS, i64_w, i32_w]; rfl
    refine take_ (i := 17) (N := some 30) (v := ?_) (a' := ?_) (ba 33 340262911) rfl rfl (take_ofW HT_.out HW_.out (by kernel_rfl)) (fun _ _ _ h => hP _ _ _ _ _ h) (Or.inl ⟨by rfl, ?_⟩) (⟨HB166.out, L167.out, L168.out⟩) ?_ ?_
    rotate_left
    ·intro w' hS
     have hl_ := hS.2.2
     go_simp
     with_reducible rfl
    rotate_left
    ·simp only [pS, pN, sB, sZ, sS, i64_w, i32_w]; rfl
    refine quiet_ (i := 19) (N := some 32) (a' := ?_) (ba 33 340787199) rfl rfl (take_ofW HT_.out HW_.out (by kernel_rfl)) (fun _ _ _ h => hP _ _ _ _ _ h) (quiet_call Try.func22 (by kernel_rfl) rfl #[.slice A0 l0.length c0, .int .i64 2] (by rfl) rfl (by (try simp only [List.map_toArray, List.map_cons, List.map_nil]); first | done | rfl) (fun w' hS => g_quiet _ _ l0 2 t2 w' (Kd.C_below HR.out (hS.1)) HC.out H2.out)) (⟨HB166.out, L167.out, L168.out⟩) ?_ ?_
    rotate_left
    ·simp only [pS, pN, sB, sZ, sS, i64_w, i32_w]; rfl
    refine pure_ (i := 20) (N := some 33) (v := ?_) (a' := ?_) (ba 33 341835775) rfl rfl (any_of HT_.out (by kernel_rfl)) (fun _ _ _ h => hP _ _ _ _ _ h) (Or.inl ⟨by rfl, ?_⟩) ?_ ?_
    rotate_left
    ·intro w'; go_simp; with_reducible rfl
    rotate_left
    ·simp only [pS, pN, sB, sZ, sS, i64_w, i32_w]; rfl
    refine pure_ (i := 21) (N := some 34) (v := ?_) (a' := ?_) (ba 33 343932927) rfl rfl (any_of HT_.out (by kernel_rfl)) (fun _ _ _ h => hP _ _ _ _ _ h) (Or.inl ⟨by rfl, ?_⟩) ?_ ?_
    rotate_left
    ·intro w'; go_simp; with_reducible rfl
    rotate_left
    ·simp only [pS, pN, sB, sZ, sS, i64_w, i32_w]; rfl
    refine quiet_ (i := 23) (N := some 36) (a' := ?_) (ba 33 352321535) rfl rfl (take_ofW HT_.out HW_.out (by kernel_rfl)) (fun _ _ _ h => hP _ _ _ _ _ h) (quiet_call Try.func22 (by kernel_rfl) rfl #[.slice A0 l0.length c0, .int .i64 3] (by rfl) rfl (by (try simp only [List.map_toArray, List.map_cons, List.map_nil]); first | done | rfl) (fun w' hS => g_quiet _ _ l0 3 t3 w' (Kd.C_below HR.out (hS.1)) HC.out H3.out)) (⟨HB166.out, L167.out, L168.out⟩) ?_ ?_
    rotate_left
    ·simp only [pS, pN, sB, sZ, sS, i64_w, i32_w]; rfl
    refine pure_ (i := 24) (N := some 37) (v := ?_) (a' := ?_) (ba 33 369098751) rfl rfl (any_of HT_.out (by kernel_rfl)) (fun _ _ _ h => hP _ _ _ _ _ h) (Or.inl ⟨by rfl, ?_⟩) ?_ ?_
    rotate_left
    ·intro w'; go_simp; with_reducible rfl
    rotate_left
    ·simp only [pS, pN, sB, sZ, sS, i64_w, i32_w]; rfl
    refine pure_ (i := 25) (N := some 38) (v := ?_) (a' := ?_) (ba 33 402653183) rfl rfl (any_of HT_.out (by kernel_rfl)) (fun _ _ _ h => hP _ _ _ _ _ h) (Or.inl ⟨by rfl, ?_⟩) ?_ ?_
    rotate_left
    ·intro w'; go_simp; with_reducible rfl
    rotate_left
    ·simp only [pS, pN, sB, sZ, sS, i64_w, i32_w]; rfl
    refine quiet_ (i := 27) (N := some 40) (a' := ?_) (ba 33 536870911) rfl rfl (take_ofW HT_.out HW_.out (by kernel_rfl)) (fun _ _ _ h => hP _ _ _ _ _ h) (quiet_call Try.func22 (by kernel_rfl) rfl #[.slice A0 l0.length c0, .int .i64 4] (by rfl) rfl (by (try simp only [List.map_toArray, List.map_cons, List.map_nil]); first | done | rfl) (fun w' hS => g_quiet _ _ l0 4 t4 w' (Kd.C_below HR.out (hS.1)) HC.out H4.out)) (⟨HB166.out, L167.out, L168.out⟩) ?_ ?_
    rotate_left
    ·simp only [pS, pN, sB, sZ, sS, i64_w, i32_w]; rfl
    refine pure_ (i := 29) (N := some 42) (v := ?_) (a' := ?_) (ba 33 1073741823) rfl rfl (any_of HT_.out (by kernel_rfl)) (fun _ _ _ h => hP _ _ _ _ _ h) (Or.inl ⟨by rfl, ?_⟩) ?_ ?_
    rotate_left
    ·intro w'; go_simp; with_reducible rfl
    rotate_left
    ·simp only [pS, pN, sB, sZ, sS, i64_w, i32_w]; rfl
    refine pure_ (i := 30) (N := some 43) (v := ?_) (a' := ?_) (ba 33 2147483647) rfl rfl (any_of HT_.out (by kernel_rfl)) (fun _ _ _ h => hP _ _ _ _ _ h) (Or.inl ⟨by rfl, ?_⟩) ?_ ?_
    rotate_left
    ·intro w'; go_simp; with_reducible rfl
    rotate_left
    ·simp only [pS, pN, sB, sZ, sS, i64_w, i32_w]; rfl
    refine one_ (i := 31) (N := some 9) (ba 33 4294967295) rfl rfl (one_of HT_.out (by kernel_rfl)) (by decide) (fun K hK => ?_)
    refine value_ (w1 := ?_) (v := ?_) (by rfl) rfl ?_ ?_
    rotate_left 2
    ·go_simp
     constructor
     ·rfl
     ·rfl
    have hb169 := Aside0.mk ((Below.refl _ w164).alloc (Nat.le_refl _) (.cells #[.int .i64 0, .string ⟨#[]⟩, .string ⟨#[]⟩, .string ⟨#[]⟩, .int .i64 0, .int .i64 0, .int .i64 0, .slice none 0 0, .slice none 0 0, .string ⟨#[]⟩] 46))
    have HB170 := Aside0.mk (below_step HB166.out hb169.out)
    have X171 := Aside0.mk (heap_alloc_new w164 (.cells #[.int .i64 0, .string ⟨#[]⟩, .string ⟨#[]⟩, .string ⟨#[]⟩, .int .i64 0, .int .i64 0, .int .i64 0, .slice none 0 0, .slice none 0 0, .string ⟨#[]⟩] 46))
    have L173 := Aside0.mk ((hb169.out.cell (p := ⟨w0.heap.size, n1, none⟩) (block_lt_of_cell L167.out)).trans L167.out)
    have L174 := Aside0.mk ((hb169.out.cell (p := ⟨w120.heap.size, n2, none⟩) (block_lt_of_cell L168.out)).trans L168.out)
    generalize hW_ : w164.alloc (.cells #[.int .i64 0, .string ⟨#[]⟩, .string ⟨#[]⟩, .string ⟨#[]⟩, .int .i64 0, .int .i64 0, .int .i64 0, .slice none 0 0, .slice none 0 0, .string ⟨#[]⟩] 46) = w172 at *
    clear hW_
    have NE175 := Aside0.mk (Nat.ne_of_gt (block_lt_of_cell L167.out))
    have NE176 := Aside0.mk (Nat.ne_of_gt (block_lt_of_cell L168.out))
    have GX177 := Aside0.mk (HB166.out.size)
    refine hK.out _ _ (⟨HB170.out, L173.out, L174.out⟩) (fun _ => ?_)
    clear hK K
    refine norm_ (a' := ?_) ?_ ?_
    rotate_left
    ·show Act.put _ (some 9) _ = _
     simp only [pS, pN, sB, sZ, sS]
     rfl
    refine one_ (i := 32) (N := none) (ba 33 8589934591) rfl rfl (one_of HT_.out (by kernel_rfl)) (by decide) (fun K hK => ?_)
    rw [if_pos (by rfl)]
    refine wp_store_row 46 _ _ rfl (w164.heap.size) (vR a1 a3 t2 t3 t4 tx s1 s2) rfl rfl 46 #[.int .i64 0, .string ⟨#[]⟩, .string ⟨#[]⟩, .string ⟨#[]⟩, .int .i64 0, .int .i64 0, .int .i64 0, .slice none 0 0, .slice none 0 0, .string ⟨#[]⟩] X171.out size46 rfl (one46 _ _ _ _ _ _ _ _) ?_
    have HB178 := Aside0.mk (below_setRow HB170.out GX177.out (vR a1 a3 t2 t3 t4 tx s1 s2))
    have HF_ := Aside0.mk (setRow_heap _ _ _ (vR a1 a3 t2 t3 t4 tx s1 s2) _ _ X171.out)
    have L179 := Aside0.mk ((cell_setRow_other _ _ (vR a1 a3 t2 t3 t4 tx s1 s2) _ NE175.out.symm).trans L173.out)
    have L180 := Aside0.mk ((cell_setRow_other _ _ (vR a1 a3 t2 t3 t4 tx s1 s2) _ NE176.out.symm).trans L174.out)
    refine hK.out _ _ (⟨HB178.out, L179.out, L180.out⟩) (fun _ => ?_)
    clear hK K
    refine done_ (done_of HT_.out (by kernel_rfl)) ?_
    exact HQ.out _ _ _ _ _ _ _ _ _ _ _ _ _ _ _ _ _ _ _ _ _ _ _ _ _ _ _ _ _ _ _ (w164.heap.size) _ GX177.out HB178.out HF_.out
   ·skip
    refine value_ (w1 := ?_) (v := ?_) (by rfl) rfl ?_ ?_
    rotate_left 2
    ·go_simp
     constructor
     ·rfl
     ·rfl
    have hb181 := Aside0.mk ((Below.refl _ w162).alloc (Nat.le_refl _) (.cells #[.int .i64 0, .string ⟨#[]⟩, .string ⟨#[]⟩, .string ⟨#[]⟩, .int .i64 0, .int .i64 0, .int .i64 0, .slice none 0 0, .slice none 0 0, .string ⟨#[]⟩] 46))
    have HB182 := Aside0.mk (below_step HB160.out hb181.out)
    have X183 := Aside0.mk (heap_alloc_new w162 (.cells #[.int .i64 0, .string ⟨#[]⟩, .string ⟨#[]⟩, .string ⟨#[]⟩, .int .i64 0, .int .i64 0, .int .i64 0, .slice none 0 0, .slice none 0 0, .string ⟨#[]⟩] 46))
    have L185 := Aside0.mk ((hb181.out.cell (p := ⟨w0.heap.size, n1, none⟩) (block_lt_of_cell L163.out)).trans L163.out)
    have L186 := Aside0.mk ((hb181.out.cell (p := ⟨w120.heap.size, n2, none⟩) (block_lt_of_cell L161.out)).trans L161.out)
    generalize hW_ : w162.alloc (.cells #[.int .i64 0, .string ⟨#[]⟩, .string ⟨#[]⟩, .string ⟨#[]⟩, .int .i64 0, .int .i64 0, .int .i64 0, .slice none 0 0, .slice none 0 0, .string ⟨#[]⟩] 46) = w184 at *
    clear hW_
    have NE187 := Aside0.mk (Nat.ne_of_gt (block_lt_of_cell L163.out))
    have NE188 := Aside0.mk (Nat.ne_of_gt (block_lt_of_cell L161.out))
    have GX189 := Aside0.mk (HB160.out.size)
    refine hK.out _ _ (⟨HB182.out, L185.out, L186.out⟩) (fun _ => ?_)
    clear hK K
    refine norm_ (a' := ?_) ?_ ?_
    rotate_left
    ·show Act.put _ (some 9) _ = _
     simp only [pS, pN, sB, sZ, sS]
     rfl
    refine one_ (i := 3) (N := some 16) (ba 33 2487490671) rfl rfl (one_of HT_.out (by kernel_rfl)) (by decide) (fun K hK => ?_)
    refine goes_ Try.func35 (by kernel_rfl) rfl #[.int .i64 t0, .int .i64 19] (by rfl) rfl rfl (by (try simp only [List.map_toArray, List.map_cons, List.map_nil]); first | done | rfl) ?_
    with_reducible refine (roadsteadlaw10_text.calls k t0 19 tx _ HX.out).mono ?_
    rintro e w190 ⟨rfl, hb0_⟩
    refine ⟨_, rfl, ?_⟩
    have hb191 := Aside0.mk hb0_
    clear hb0_
    have HB192 := Aside0.mk (below_step HB182.out hb191.out)
    have L193 := Aside0.mk ((hb191.out.cell (p := ⟨w0.heap.size, n1, none⟩) (block_lt_of_cell L185.out)).trans L185.out)
    have L194 := Aside0.mk ((hb191.out.cell (p := ⟨w120.heap.size, n2, none⟩) (block_lt_of_cell L186.out)).trans L186.out)
    have X195 := Aside0.mk ((hb191.out.block _ (Array.getElem?_eq_some_iff.1 X183.out).1).trans X183.out)
    refine hK.out _ _ (⟨HB192.out, L193.out, L194.out⟩) (fun _ => ?_)
    clear hK K
    refine norm_ (a' := ?_) ?_ ?_
    rotate_left
    ·show Act.put _ (some 16) _ = _
     simp only [pS, pN, sB, sZ, sS]
     rfl
    refine pure_ (i := 4) (N := some 17) (v := ?_) (a' := ?_) (ba 33 2487490687) rfl rfl (any_of HT_.out (by kernel_rfl)) (fun _ _ _ h => hP _ _ _ _ _ h) (Or.inl ⟨by rfl, ?_⟩) ?_ ?_
    rotate_left
    ·intro w'; go_simp; with_reducible rfl
    rotate_left
    ·simp only [pS, pN, sB, sZ, sS, i64_w, i32_w]; rfl
    refine quiet_ (i := 7) (N := some 20) (a' := ?_) (ba 33 2487490815) rfl rfl (take_ofW HT_.out HW_.out (by kernel_rfl)) (fun _ _ _ h => hP _ _ _ _ _ h) (quiet_call Try.func22 (by kernel_rfl) rfl #[.slice A0 l0.length c0, .int .i64 1] (by rfl) rfl (by (try simp only [List.map_toArray, List.map_cons, List.map_nil]); first | done | rfl) (fun w' hS => g_quiet _ _ l0 1 t1 w' (Kd.C_below HR.out (hS.1)) HC.out H1.out)) (⟨HB192.out, L193.out, L194.out⟩) ?_ ?_
    rotate_left
    ·simp only [pS, pN, sB, sZ, sS, i64_w, i32_w]; rfl
    refine pure_ (i := 8) (N := some 21) (v := ?_) (a' := ?_) (ba 33 2487491071) rfl rfl (any_of HT_.out (by kernel_rfl)) (fun _ _ _ h => hP _ _ _ _ _ h) (Or.inl ⟨by rfl, ?_⟩) ?_ ?_
    rotate_left
    ·intro w'; go_simp; with_reducible rfl
    rotate_left
    ·simp only [pS, pN, sB, sZ, sS, i64_w, i32_w]; rfl
    refine pure_ (i := 9) (N := some 22) (v := ?_) (a' := ?_) (ba 33 2487491583) rfl rfl (any_of HT_.out (by kernel_rfl)) (fun _ _ _ h => hP _ _ _ _ _ h) (Or.inl ⟨by rfl, ?_⟩) ?_ ?_
    rotate_left
    ·intro w'; go_simp; with_reducible rfl
    rotate_left
    ·simp only [pS, pN, sB, sZ, sS, i64_w, i32_w]; rfl
    refine take_ (i := 10) (N := some 23) (v := ?_) (a' := ?_) (ba 33 2487492607) rfl rfl (take_ofW HT_.out HW_.out (by kernel_rfl)) (fun _ _ _ h => hP _ _ _ _ _ h) (Or.inl ⟨by rfl, ?_⟩) (⟨HB192.out, L193.out, L194.out⟩) ?_ ?_
    rotate_left
    ·intro w' hS
     have hl_ := hS.2.1
     go_simp
     with_reducible rfl
    rotate_left
    ·simp only [pS, pN, sB, sZ, sS, i64_w, i32_w]; rfl
    refine quiet_ (i := 13) (N := some 26) (a' := ?_) (ba 33 2487500799) rfl rfl (take_ofW HT_.out HW_.out (by kernel_rfl)) (fun _ _ _ h => hP _ _ _ _ _ h) (quiet_call Try.func22 (by kernel_rfl) rfl #[.slice A0 l0.length c0, .int .i64 1] (by rfl) rfl (by (try simp only [List.map_toArray, List.map_cons, List.map_nil]); first | done | rfl) (fun w' hS => g_quiet _ _ l0 1 t1 w' (Kd.C_below HR.out (hS.1)) HC.out H1.out)) (⟨HB192.out, L193.out, L194.out⟩) ?_ ?_
    rotate_left
    ·simp only [pS, pN, sB, sZ, sS, i64_w, i32_w]; rfl
    refine pure_ (i := 14) (N := some 27) (v := ?_) (a' := ?_) (ba 33 2487517183) rfl rfl (any_of HT_.out (by kernel_rfl)) (fun _ _ _ h => hP _ _ _ _ _ h) (Or.inl ⟨by rfl, ?_⟩) ?_ ?_
    rotate_left
    ·intro w'; go_simp; with_reducible rfl
    rotate_left
    ·simp only [pS, pN, sB, sZ, sS, i64_w, i32_w]; rfl
    refine pure_ (i := 15) (N := some 28) (v := ?_) (a' := ?_) (ba 33 2487549951) rfl rfl (any_of HT_.out (by kernel_rfl)) (fun _ _ _ h => hP _ _ _ _ _ h) (Or.inl ⟨by rfl, ?_⟩) ?_ ?_
    rotate_left
    ·intro w'; go_simp; with_reducible rfl
    rotate_left
    ·simp only [pS, pN, sB, sZ, sS, i64_w, i32_w]; rfl
    refine pure_ (i := 16) (N := some 29) (v := ?_) (a' := ?_) (ba 33 2487615487) rfl rfl (any_of HT_.out (by kernel_rfl)) (fun _ _ _ h => hP _ _ _ _ _ h) (Or.inl ⟨by rfl, ?_⟩) ?_ ?_
    rotate_left
    ·intro w'; go_simp; with_reducible rfl
    rotate_left
    ·simp only [pS, pN, sB, sZ, sS, i64_w, i32_w]; rfl
    refine take_ (i := 17) (N := some 30) (v := ?_) (a' := ?_) (ba 33 2487746559) rfl rfl (take_ofW HT_.out HW_.out (by kernel_rfl)) (fun _ _ _ h => hP _ _ _ _ _ h) (Or.inl ⟨by rfl, ?_⟩) (⟨HB192.out, L193.out, L194.out⟩) ?_ ?_
    rotate_left
    ·intro w' hS
     have hl_ := hS.2.2
     go_simp
     with_reducible rfl
    rotate_left
    ·simp only [pS, pN, sB, sZ, sS, i64_w, i32_w]; rfl
    refine quiet_ (i := 19) (N := some 32) (a' := ?_) (ba 33 2488270847) rfl rfl (take_ofW HT_.out HW_.out (by kernel_rfl)) (fun _ _ _ h => hP _ _ _ _ _ h) (quiet_call Try.func22 (by kernel_rfl) rfl #[.slice A0 l0.length c0, .int .i64 2] (by rfl) rfl (by (try simp only [List.map_toArray, List.map_cons, List.map_nil]); first | done | rfl) (fun w' hS => g_quiet _ _ l0 2 t2 w' (Kd.C_below HR.out (hS.1)) HC.out H2.out)) (⟨HB192.out, L193.out, L194.out⟩) ?_ ?_
    rotate_left
    ·simp only [pS, pN, sB, sZ, sS, i64_w, i32_w]; rfl
    refine pure_ (i := 20) (N := some 33) (v := ?_) (a' := ?_) (ba 33 2489319423) rfl rfl (any_of HT_.out (by kernel_rfl)) (fun _ _ _ h => hP _ _ _ _ _ h) (Or.inl ⟨by rfl, ?_⟩) ?_ ?_
    rotate_left
    ·intro w'; go_simp; with_reducible rfl
    rotate_left
    ·simp only [pS, pN, sB, sZ, sS, i64_w, i32_w]; rfl
    refine pure_ (i := 21) (N := some 34) (v := ?_) (a' := ?_) (ba 33 2491416575) rfl rfl (any_of HT_.out (by kernel_rfl)) (fun _ _ _ h => hP _ _ _ _ _ h) (Or.inl ⟨by rfl, ?_⟩) ?_ ?_
    rotate_left
    ·intro w'; go_simp; with_reducible rfl
    rotate_left
    ·simp only [pS, pN, sB, sZ, sS, i64_w, i32_w]; rfl
    refine quiet_ (i := 23) (N := some 36) (a' := ?_) (ba 33 2499805183) rfl rfl (take_ofW HT_.out HW_.out (by kernel_rfl)) (fun _ _ _ h => hP _ _ _ _ _ h) (quiet_call Try.func22 (by kernel_rfl) rfl #[.slice A0 l0.length c0, .int .i64 3] (by rfl) rfl (by (try simp only [List.map_toArray, List.map_cons, List.map_nil]); first | done | rfl) (fun w' hS => g_quiet _ _ l0 3 t3 w' (Kd.C_below HR.out (hS.1)) HC.out H3.out)) (⟨HB192.out, L193.out, L194.out⟩) ?_ ?_
    rotate_left
    ·simp only [pS, pN, sB, sZ, sS, i64_w, i32_w]; rfl
    refine pure_ (i := 24) (N := some 37) (v := ?_) (a' := ?_) (ba 33 2516582399) rfl rfl (any_of HT_.out (by kernel_rfl)) (fun _ _ _ h => hP _ _ _ _ _ h) (Or.inl ⟨by rfl, ?_⟩) ?_ ?_
    rotate_left
    ·intro w'; go_simp; with_reducible rfl
    rotate_left
    ·simp only [pS, pN, sB, sZ, sS, i64_w, i32_w]; rfl
    refine pure_ (i := 25) (N := some 38) (v := ?_) (a' := ?_) (ba 33 2550136831) rfl rfl (any_of HT_.out (by kernel_rfl)) (fun _ _ _ h => hP _ _ _ _ _ h) (Or.inl ⟨by rfl, ?_⟩) ?_ ?_
    rotate_left
    ·intro w'; go_simp; with_reducible rfl
    rotate_left
    ·simp only [pS, pN, sB, sZ, sS, i64_w, i32_w]; rfl
    refine quiet_ (i := 27) (N := some 40) (a' := ?_) (ba 33 2684354559) rfl rfl (take_ofW HT_.out HW_.out (by kernel_rfl)) (fun _ _ _ h => hP _ _ _ _ _ h) (quiet_call Try.func22 (by kernel_rfl) rfl #[.slice A0 l0.length c0, .int .i64 4] (by rfl) rfl (by (try simp only [List.map_toArray, List.map_cons, List.map_nil]); first | done | rfl) (fun w' hS => g_quiet _ _ l0 4 t4 w' (Kd.C_below HR.out (hS.1)) HC.out H4.out)) (⟨HB192.out, L193.out, L194.out⟩) ?_ ?_
    rotate_left
    ·simp only [pS, pN, sB, sZ, sS, i64_w, i32_w]; rfl
    refine pure_ (i := 29) (N := some 42) (v := ?_) (a' := ?_) (ba 33 3221225471) rfl rfl (any_of HT_.out (by kernel_rfl)) (fun _ _ _ h => hP _ _ _ _ _ h) (Or.inl ⟨by rfl, ?_⟩) ?_ ?_
    rotate_left
    ·intro w'; go_simp; with_reducible rfl
    rotate_left
    ·simp only [pS, pN, sB, sZ, sS, i64_w, i32_w]; rfl
    refine pure_ (i := 30) (N := some 43) (v := ?_) (a' := ?_) (ba 33 4294967295) rfl rfl (any_of HT_.out (by kernel_rfl)) (fun _ _ _ h => hP _ _ _ _ _ h) (Or.inl ⟨by rfl, ?_⟩) ?_ ?_
    rotate_left
    ·intro w'; go_simp; with_reducible rfl
    rotate_left
    ·simp only [pS, pN, sB, sZ, sS, i64_w, i32_w]; rfl
    refine one_ (i := 32) (N := none) (ba 33 8589934591) rfl rfl (one_of HT_.out (by kernel_rfl)) (by decide) (fun K hK => ?_)
    rw [if_pos (by rfl)]
    refine wp_store_row 46 _ _ rfl (w162.heap.size) (vR a1 a3 t2 t3 t4 tx s1 s2) rfl rfl 46 #[.int .i64 0, .string ⟨#[]⟩, .string ⟨#[]⟩, .string ⟨#[]⟩, .int .i64 0, .int .i64 0, .int .i64 0, .slice none 0 0, .slice none 0 0, .string ⟨#[]⟩] X195.out size46 rfl (one46 _ _ _ _ _ _ _ _) ?_
    have HB196 := Aside0.mk (below_setRow HB192.out GX189.out (vR a1 a3 t2 t3 t4 tx s1 s2))
    have HF_ := Aside0.mk (setRow_heap _ _ _ (vR a1 a3 t2 t3 t4 tx s1 s2) _ _ X195.out)
    have L197 := Aside0.mk ((cell_setRow_other _ _ (vR a1 a3 t2 t3 t4 tx s1 s2) _ NE187.out.symm).trans L193.out)
    have L198 := Aside0.mk ((cell_setRow_other _ _ (vR a1 a3 t2 t3 t4 tx s1 s2) _ NE188.out.symm).trans L194.out)
    refine hK.out _ _ (⟨HB196.out, L197.out, L198.out⟩) (fun _ => ?_)
    clear hK K
    refine done_ (done_of HT_.out (by kernel_rfl)) ?_
    exact HQ.out _ _ _ _ _ _ _ _ _ _ _ _ _ _ _ _ _ _ _ _ _ _ _ _ _ _ _ _ _ _ _ (w162.heap.size) _ GX189.out HB196.out HF_.out
  ·skip
   refine value_ (w1 := ?_) (v := ?_) (by rfl) rfl ?_ ?_
   rotate_left 2
   ·go_simp
    constructor
    ·rfl
    ·rfl
   have hb199 := Aside0.mk ((Below.refl _ w120).alloc (Nat.le_refl _) (.cells #[.int .i64 0, .string ⟨#[]⟩, .string ⟨#[]⟩, .string ⟨#[]⟩, .int .i64 0, .int .i64 0, .int .i64 0, .slice none 0 0, .slice none 0 0, .string ⟨#[]⟩] 46))
   have HB200 := Aside0.mk (below_step HB118.out hb199.out)
   have X201 := Aside0.mk (heap_alloc_new w120 (.cells #[.int .i64 0, .string ⟨#[]⟩, .string ⟨#[]⟩, .string ⟨#[]⟩, .int .i64 0, .int .i64 0, .int .i64 0, .slice none 0 0, .slice none 0 0, .string ⟨#[]⟩] 46))
   have L203 := Aside0.mk ((hb199.out.cell (p := ⟨w0.heap.size, n1, none⟩) (block_lt_of_cell L119.out)).trans L119.out)
   generalize hW_ : w120.alloc (.cells #[.int .i64 0, .string ⟨#[]⟩, .string ⟨#[]⟩, .string ⟨#[]⟩, .int .i64 0, .int .i64 0, .int .i64 0, .slice none 0 0, .slice none 0 0, .string ⟨#[]⟩] 46) = w202 at *
   clear hW_
   have NE204 := Aside0.mk (Nat.ne_of_gt (block_lt_of_cell L119.out))
   have GX205 := Aside0.mk (HB118.out.size)
   refine hK.out _ _ (⟨HB200.out, L203.out⟩) (fun _ => ?_)
   clear hK K
   refine norm_ (a' := ?_) ?_ ?_
   rotate_left
   ·show Act.put _ (some 9) _ = _
    simp only [pS, pN, sB, sZ, sS]
    rfl
   refine two_ (i := 3) (j := 11) (Ni := some 16) (Nj := some 24) (ba 33 2487488623) (ba 33 2487490663) rfl rfl rfl rfl (two_of HT_.out (by kernel_rfl)) (by decide) (by decide) (fun K hK => ?_) (fun K hK => ?_)
   ·skip
    refine goes_ Try.func35 (by kernel_rfl) rfl #[.int .i64 t0, .int .i64 19] (by rfl) rfl rfl (by (try simp only [List.map_toArray, List.map_cons, List.map_nil]); first | done | rfl) ?_
    with_reducible refine (roadsteadlaw10_text.calls k t0 19 tx _ HX.out).mono ?_
    rintro e w206 ⟨rfl, hb0_⟩
    refine ⟨_, rfl, ?_⟩
    have hb207 := Aside0.mk hb0_
    clear hb0_
    have HB208 := Aside0.mk (below_step HB200.out hb207.out)
    have L209 := Aside0.mk ((hb207.out.cell (p := ⟨w0.heap.size, n1, none⟩) (block_lt_of_cell L203.out)).trans L203.out)
    have X210 := Aside0.mk ((hb207.out.block _ (Array.getElem?_eq_some_iff.1 X201.out).1).trans X201.out)
    refine hK.out _ _ (⟨HB208.out, L209.out⟩) (fun _ => ?_)
    clear hK K
    refine norm_ (a' := ?_) ?_ ?_
    rotate_left
    ·show Act.put _ (some 16) _ = _
     simp only [pS, pN, sB, sZ, sS]
     rfl
    refine pure_ (i := 4) (N := some 17) (v := ?_) (a' := ?_) (ba 33 2487488639) rfl rfl (any_of HT_.out (by kernel_rfl)) (fun _ _ _ h => hP _ _ _ _ _ h) (Or.inl ⟨by rfl, ?_⟩) ?_ ?_
    rotate_left
    ·intro w'; go_simp; with_reducible rfl
    rotate_left
    ·simp only [pS, pN, sB, sZ, sS, i64_w, i32_w]; rfl
    refine quiet_ (i := 7) (N := some 20) (a' := ?_) (ba 33 2487488767) rfl rfl (take_ofW HT_.out HW_.out (by kernel_rfl)) (fun _ _ _ h => hP _ _ _ _ _ h) (quiet_call Try.func22 (by kernel_rfl) rfl #[.slice A0 l0.length c0, .int .i64 1] (by rfl) rfl (by (try simp only [List.map_toArray, List.map_cons, List.map_nil]); first | done | rfl) (fun w' hS => g_quiet _ _ l0 1 t1 w' (Kd.C_below HR.out (hS.1)) HC.out H1.out)) (⟨HB208.out, L209.out⟩) ?_ ?_
    rotate_left
    ·simp only [pS, pN, sB, sZ, sS, i64_w, i32_w]; rfl
    refine pure_ (i := 8) (N := some 21) (v := ?_) (a' := ?_) (ba 33 2487489023) rfl rfl (any_of HT_.out (by kernel_rfl)) (fun _ _ _ h => hP _ _ _ _ _ h) (Or.inl ⟨by rfl, ?_⟩) ?_ ?_
    rotate_left
    ·intro w'; go_simp; with_reducible rfl
    rotate_left
    ·simp only [pS, pN, sB, sZ, sS, i64_w, i32_w]; rfl
    refine pure_ (i := 9) (N := some 22) (v := ?_) (a' := ?_) (ba 33 2487489535) rfl rfl (any_of HT_.out (by kernel_rfl)) (fun _ _ _ h => hP _ _ _ _ _ h) (Or.inl ⟨by rfl, ?_⟩) ?_ ?_
    rotate_left
    ·intro w'; go_simp; with_reducible rfl
    rotate_left
    ·simp only [pS, pN, sB, sZ, sS, i64_w, i32_w]; rfl
    refine take_ (i := 10) (N := some 23) (v := ?_) (a' := ?_) (ba 33 2487490559) rfl rfl (take_ofW HT_.out HW_.out (by kernel_rfl)) (fun _ _ _ h => hP _ _ _ _ _ h) (Or.inl ⟨by rfl, ?_⟩) (⟨HB208.out, L209.out⟩) ?_ ?_
    rotate_left
    ·intro w' hS
     have hl_ := hS.2
     go_simp
     with_reducible rfl
    rotate_left
    ·simp only [pS, pN, sB, sZ, sS, i64_w, i32_w]; rfl
    refine quiet_ (i := 13) (N := some 26) (a' := ?_) (ba 33 2487498751) rfl rfl (take_ofW HT_.out HW_.out (by kernel_rfl)) (fun _ _ _ h => hP _ _ _ _ _ h) (quiet_call Try.func22 (by kernel_rfl) rfl #[.slice A0 l0.length c0, .int .i64 1] (by rfl) rfl (by (try simp only [List.map_toArray, List.map_cons, List.map_nil]); first | done | rfl) (fun w' hS => g_quiet _ _ l0 1 t1 w' (Kd.C_below HR.out (hS.1)) HC.out H1.out)) (⟨HB208.out, L209.out⟩) ?_ ?_
    rotate_left
    ·simp only [pS, pN, sB, sZ, sS, i64_w, i32_w]; rfl
    refine pure_ (i := 14) (N := some 27) (v := ?_) (a' := ?_) (ba 33 2487515135) rfl rfl (any_of HT_.out (by kernel_rfl)) (fun _ _ _ h => hP _ _ _ _ _ h) (Or.inl ⟨by rfl, ?_⟩) ?_ ?_
    rotate_left
    ·intro w'; go_simp; with_reducible rfl
    rotate_left
    ·simp only [pS, pN, sB, sZ, sS, i64_w, i32_w]; rfl
    refine pure_ (i := 15) (N := some 28) (v := ?_) (a' := ?_) (ba 33 2487547903) rfl rfl (any_of HT_.out (by kernel_rfl)) (fun _ _ _ h => hP _ _ _ _ _ h) (Or.inl ⟨by rfl, ?_⟩) ?_ ?_
    rotate_left
    ·intro w'; go_simp; with_reducible rfl
    rotate_left
    ·simp only [pS, pN, sB, sZ, sS, i64_w, i32_w]; rfl
    refine quiet_ (i := 19) (N := some 32) (a' := ?_) (ba 33 2488072191) rfl rfl (take_ofW HT_.out HW_.out (by kernel_rfl)) (fun _ _ _ h => hP _ _ _ _ _ h) (quiet_call Try.func22 (by kernel_rfl) rfl #[.slice A0 l0.length c0, .int .i64 2] (by rfl) rfl (by (try simp only [List.map_toArray, List.map_cons, List.map_nil]); first | done | rfl) (fun w' hS => g_quiet _ _ l0 2 t2 w' (Kd.C_below HR.out (hS.1)) HC.out H2.out)) (⟨HB208.out, L209.out⟩) ?_ ?_
    rotate_left
    ·simp only [pS, pN, sB, sZ, sS, i64_w, i32_w]; rfl
    refine pure_ (i := 20) (N := some 33) (v := ?_) (a' := ?_) (ba 33 2489120767) rfl rfl (any_of HT_.out (by kernel_rfl)) (fun _ _ _ h => hP _ _ _ _ _ h) (Or.inl ⟨by rfl, ?_⟩) ?_ ?_
    rotate_left
    ·intro w'; go_simp; with_reducible rfl
    rotate_left
    ·simp only [pS, pN, sB, sZ, sS, i64_w, i32_w]; rfl
    refine pure_ (i := 21) (N := some 34) (v := ?_) (a' := ?_) (ba 33 2491217919) rfl rfl (any_of HT_.out (by kernel_rfl)) (fun _ _ _ h => hP _ _ _ _ _ h) (Or.inl ⟨by rfl, ?_⟩) ?_ ?_
    rotate_left
    ·intro w'; go_simp; with_reducible rfl
    rotate_left
    ·simp only [pS, pN, sB, sZ, sS, i64_w, i32_w]; rfl
    refine quiet_ (i := 23) (N := some 36) (a' := ?_) (ba 33 2499606527) rfl rfl (take_ofW HT_.out HW_.out (by kernel_rfl)) (fun _ _ _ h => hP _ _ _ _ _ h) (quiet_call Try.func22 (by kernel_rfl) rfl #[.slice A0 l0.length c0, .int .i64 3] (by rfl) rfl (by (try simp only [List.map_toArray, List.map_cons, List.map_nil]); first | done | rfl) (fun w' hS => g_quiet _ _ l0 3 t3 w' (Kd.C_below HR.out (hS.1)) HC.out H3.out)) (⟨HB208.out, L209.out⟩) ?_ ?_
    rotate_left
    ·simp only [pS, pN, sB, sZ, sS, i64_w, i32_w]; rfl
    refine pure_ (i := 24) (N := some 37) (v := ?_) (a' := ?_) (ba 33 2516383743) rfl rfl (any_of HT_.out (by kernel_rfl)) (fun _ _ _ h => hP _ _ _ _ _ h) (Or.inl ⟨by rfl, ?_⟩) ?_ ?_
    rotate_left
    ·intro w'; go_simp; with_reducible rfl
    rotate_left
    ·simp only [pS, pN, sB, sZ, sS, i64_w, i32_w]; rfl
    refine pure_ (i := 25) (N := some 38) (v := ?_) (a' := ?_) (ba 33 2549938175) rfl rfl (any_of HT_.out (by kernel_rfl)) (fun _ _ _ h => hP _ _ _ _ _ h) (Or.inl ⟨by rfl, ?_⟩) ?_ ?_
    rotate_left
    ·intro w'; go_simp; with_reducible rfl
    rotate_left
    ·simp only [pS, pN, sB, sZ, sS, i64_w, i32_w]; rfl
    refine quiet_ (i := 27) (N := some 40) (a' := ?_) (ba 33 2684155903) rfl rfl (take_ofW HT_.out HW_.out (by kernel_rfl)) (fun _ _ _ h => hP _ _ _ _ _ h) (quiet_call Try.func22 (by kernel_rfl) rfl #[.slice A0 l0.length c0, .int .i64 4] (by rfl) rfl (by (try simp only [List.map_toArray, List.map_cons, List.map_nil]); first | done | rfl) (fun w' hS => g_quiet _ _ l0 4 t4 w' (Kd.C_below HR.out (hS.1)) HC.out H4.out)) (⟨HB208.out, L209.out⟩) ?_ ?_
    rotate_left
    ·simp only [pS, pN, sB, sZ, sS, i64_w, i32_w]; rfl
    refine pure_ (i := 29) (N := some 42) (v := ?_) (a' := ?_) (ba 33 3221026815) rfl rfl (any_of HT_.out (by kernel_rfl)) (fun _ _ _ h => hP _ _ _ _ _ h) (Or.inl ⟨by rfl, ?_⟩) ?_ ?_
    rotate_left
    ·intro w'; go_simp; with_reducible rfl
    rotate_left
    ·simp only [pS, pN, sB, sZ, sS, i64_w, i32_w]; rfl
    refine one_ (i := 11) (N := some 24) (ba 33 3221028863) rfl rfl (one_of HT_.out (by kernel_rfl)) (by decide) (fun K hK => ?_)
    refine value_ (w1 := ?_) (v := ?_) (by rfl) rfl ?_ ?_
    rotate_left 2
    ·go_simp
     constructor
     ·rfl
     ·rfl
    have hb211 := Aside0.mk ((Below.refl _ w206).alloc (Nat.le_refl _) (.cells #[.string ⟨#[]⟩, .string (⟨#[97, 61, 49]⟩ : ByteArray), .string (⟨#[97, 61, 49, 44, 98, 61, 50]⟩ : ByteArray)] 9))
    have HB212 := Aside0.mk (below_step HB208.out hb211.out)
    have L213 := Aside0.mk (HLB.out w206)
    have L215 := Aside0.mk ((hb211.out.cell (p := ⟨w0.heap.size, n1, none⟩) (block_lt_of_cell L209.out)).trans L209.out)
    have X216 := Aside0.mk ((hb211.out.block _ (Array.getElem?_eq_some_iff.1 X210.out).1).trans X210.out)
    generalize hW_ : w206.alloc (.cells #[.string ⟨#[]⟩, .string (⟨#[97, 61, 49]⟩ : ByteArray), .string (⟨#[97, 61, 49, 44, 98, 61, 50]⟩ : ByteArray)] 9) = w214 at *
    clear hW_
    have NE217 := Aside0.mk (Nat.ne_of_lt (Array.getElem?_eq_some_iff.1 X210.out).1)
    refine hK.out _ _ (⟨HB212.out, L215.out⟩) (fun _ => ?_)
    clear hK K
    refine norm_ (a' := ?_) ?_ ?_
    rotate_left
    ·show Act.put _ (some 24) _ = _
     simp only [pS, pN, sB, sZ, sS]
     rfl
    refine restart_ (S2 := fun w' => Below w.heap.size w w' ∧ w'.cell? ⟨w0.heap.size, n1, none⟩ = some (.string s1) ∧ w'.cell? ⟨w206.heap.size, n2, none⟩ = some (.string s2)) (fun w' h => ⟨h.1, h.2.1⟩) (⟨HB212.out, L215.out, L213.out⟩) ?_
    refine pure_ (i := 16) (N := some 29) (v := ?_) (a' := ?_) (ba 33 3221094399) rfl rfl (any_of HT_.out (by kernel_rfl)) (fun _ _ _ h => hP _ _ _ _ _ h) (Or.inl ⟨by rfl, ?_⟩) ?_ ?_
    rotate_left
    ·intro w'; go_simp; with_reducible rfl
    rotate_left
    ·simp only [pS, pN, sB, sZ, sS, i64_w, i32_w]; rfl
    refine take_ (i := 17) (N := some 30) (v := ?_) (a' := ?_) (ba 33 3221225471) rfl rfl (take_ofW HT_.out HW_.out (by kernel_rfl)) (fun _ _ _ h => hP _ _ _ _ _ h) (Or.inl ⟨by rfl, ?_⟩) (⟨HB212.out, L215.out, L213.out⟩) ?_ ?_
    rotate_left
    ·intro w' hS
     have hl_ := hS.2.2
     go_simp
     with_reducible rfl
    rotate_left
    ·simp only [pS, pN, sB, sZ, sS, i64_w, i32_w]; rfl
    refine pure_ (i := 30) (N := some 43) (v := ?_) (a' := ?_) (ba 33 4294967295) rfl rfl (any_of HT_.out (by kernel_rfl)) (fun _ _ _ h => hP _ _ _ _ _ h) (Or.inl ⟨by rfl, ?_⟩) ?_ ?_
    rotate_left
    ·intro w'; go_simp; with_reducible rfl
    rotate_left
    ·simp only [pS, pN, sB, sZ, sS, i64_w, i32_w]; rfl
    refine one_ (i := 32) (N := none) (ba 33 8589934591) rfl rfl (one_of HT_.out (by kernel_rfl)) (by decide) (fun K hK => ?_)
    rw [if_pos (by rfl)]
    refine wp_store_row 46 _ _ rfl (w120.heap.size) (vR a1 a3 t2 t3 t4 tx s1 s2) rfl rfl 46 #[.int .i64 0, .string ⟨#[]⟩, .string ⟨#[]⟩, .string ⟨#[]⟩, .int .i64 0, .int .i64 0, .int .i64 0, .slice none 0 0, .slice none 0 0, .string ⟨#[]⟩] X216.out size46 rfl (one46 _ _ _ _ _ _ _ _) ?_
    have HB218 := Aside0.mk (below_setRow HB212.out GX205.out (vR a1 a3 t2 t3 t4 tx s1 s2))
    have HF_ := Aside0.mk (setRow_heap _ _ _ (vR a1 a3 t2 t3 t4 tx s1 s2) _ _ X216.out)
    have L219 := Aside0.mk ((cell_setRow_other _ _ (vR a1 a3 t2 t3 t4 tx s1 s2) _ NE204.out.symm).trans L215.out)
    have L220 := Aside0.mk ((cell_setRow_other _ _ (vR a1 a3 t2 t3 t4 tx s1 s2) _ NE217.out.symm).trans L213.out)
    refine hK.out _ _ (⟨HB218.out, L219.out, L220.out⟩) (fun _ => ?_)
    clear hK K
    refine done_ (done_of HT_.out (by kernel_rfl)) ?_
    exact HQ.out _ _ _ _ _ _ _ _ _ _ _ _ _ _ _ _ _ _ _ _ _ _ _ _ _ _ _ _ _ _ _ (w120.heap.size) _ GX205.out HB218.out HF_.out
   ·skip
    refine value_ (w1 := ?_) (v := ?_) (by rfl) rfl ?_ ?_
    rotate_left 2
    ·go_simp
     constructor
     ·rfl
     ·rfl
    have hb221 := Aside0.mk ((Below.refl _ w202).alloc (Nat.le_refl _) (.cells #[.string ⟨#[]⟩, .string (⟨#[97, 61, 49]⟩ : ByteArray), .string (⟨#[97, 61, 49, 44, 98, 61, 50]⟩ : ByteArray)] 9))
    have HB222 := Aside0.mk (below_step HB200.out hb221.out)
    have L223 := Aside0.mk (HLB.out w202)
    have L225 := Aside0.mk ((hb221.out.cell (p := ⟨w0.heap.size, n1, none⟩) (block_lt_of_cell L203.out)).trans L203.out)
    have X226 := Aside0.mk ((hb221.out.block _ (Array.getElem?_eq_some_iff.1 X201.out).1).trans X201.out)
    generalize hW_ : w202.alloc (.cells #[.string ⟨#[]⟩, .string (⟨#[97, 61, 49]⟩ : ByteArray), .string (⟨#[97, 61, 49, 44, 98, 61, 50]⟩ : ByteArray)] 9) = w224 at *
    clear hW_
    have NE227 := Aside0.mk (Nat.ne_of_lt (Array.getElem?_eq_some_iff.1 X201.out).1)
    refine hK.out _ _ (⟨HB222.out, L225.out⟩) (fun _ => ?_)
    clear hK K
    refine norm_ (a' := ?_) ?_ ?_
    rotate_left
    ·show Act.put _ (some 24) _ = _
     simp only [pS, pN, sB, sZ, sS]
     rfl
    refine restart_ (S2 := fun w' => Below w.heap.size w w' ∧ w'.cell? ⟨w0.heap.size, n1, none⟩ = some (.string s1) ∧ w'.cell? ⟨w202.heap.size, n2, none⟩ = some (.string s2)) (fun w' h => ⟨h.1, h.2.1⟩) (⟨HB222.out, L225.out, L223.out⟩) ?_
    refine one_ (i := 3) (N := some 16) (ba 33 2487490671) rfl rfl (one_of HT_.out (by kernel_rfl)) (by decide) (fun K hK => ?_)
    refine goes_ Try.func35 (by kernel_rfl) rfl #[.int .i64 t0, .int .i64 19] (by rfl) rfl rfl (by (try simp only [List.map_toArray, List.map_cons, List.map_nil]); first | done | rfl) ?_
    with_reducible refine (roadsteadlaw10_text.calls k t0 19 tx _ HX.out).mono ?_
    rintro e w228 ⟨rfl, hb0_⟩
    refine ⟨_, rfl, ?_⟩
    have hb229 := Aside0.mk hb0_
    clear hb0_
    have HB230 := Aside0.mk (below_step HB222.out hb229.out)
    have L231 := Aside0.mk ((hb229.out.cell (p := ⟨w0.heap.size, n1, none⟩) (block_lt_of_cell L225.out)).trans L225.out)
    have L232 := Aside0.mk ((hb229.out.cell (p := ⟨w202.heap.size, n2, none⟩) (block_lt_of_cell L223.out)).trans L223.out)
    have X233 := Aside0.mk ((hb229.out.block _ (Array.getElem?_eq_some_iff.1 X226.out).1).trans X226.out)
    refine hK.out _ _ (⟨HB230.out, L231.out, L232.out⟩) (fun _ => ?_)
    clear hK K
    refine norm_ (a' := ?_) ?_ ?_
    rotate_left
    ·show Act.put _ (some 16) _ = _
     simp only [pS, pN, sB, sZ, sS]
     rfl
    refine pure_ (i := 4) (N := some 17) (v := ?_) (a' := ?_) (ba 33 2487490687) rfl rfl (any_of HT_.out (by kernel_rfl)) (fun _ _ _ h => hP _ _ _ _ _ h) (Or.inl ⟨by rfl, ?_⟩) ?_ ?_
    rotate_left
    ·intro w'; go_simp; with_reducible rfl
    rotate_left
    ·simp only [pS, pN, sB, sZ, sS, i64_w, i32_w]; rfl
    refine quiet_ (i := 7) (N := some 20) (a' := ?_) (ba 33 2487490815) rfl rfl (take_ofW HT_.out HW_.out (by kernel_rfl)) (fun _ _ _ h => hP _ _ _ _ _ h) (quiet_call Try.func22 (by kernel_rfl) rfl #[.slice A0 l0.length c0, .int .i64 1] (by rfl) rfl (by (try simp only [List.map_toArray, List.map_cons, List.map_nil]); first | done | rfl) (fun w' hS => g_quiet _ _ l0 1 t1 w' (Kd.C_below HR.out (hS.1)) HC.out H1.out)) (⟨HB230.out, L231.out, L232.out⟩) ?_ ?_
    rotate_left
    ·simp only [pS, pN, sB, sZ, sS, i64_w, i32_w]; rfl
    refine pure_ (i := 8) (N := some 21) (v := ?_) (a' := ?_) (ba 33 2487491071) rfl rfl (any_of HT_.out (by kernel_rfl)) (fun _ _ _ h => hP _ _ _ _ _ h) (Or.inl ⟨by rfl, ?_⟩) ?_ ?_
    rotate_left
    ·intro w'; go_simp; with_reducible rfl
    rotate_left
    ·simp only [pS, pN, sB, sZ, sS, i64_w, i32_w]; rfl
    refine pure_ (i := 9) (N := some 22) (v := ?_) (a' := ?_) (ba 33 2487491583) rfl rfl (any_of HT_.out (by kernel_rfl)) (fun _ _ _ h => hP _ _ _ _ _ h) (Or.inl ⟨by rfl, ?_⟩) ?_ ?_
    rotate_left
    ·intro w'; go_simp; with_reducible rfl
    rotate_left
    ·simp only [pS, pN, sB, sZ, sS, i64_w, i32_w]; rfl
    refine take_ (i := 10) (N := some 23) (v := ?_) (a' := ?_) (ba 33 2487492607) rfl rfl (take_ofW HT_.out HW_.out (by kernel_rfl)) (fun _ _ _ h => hP _ _ _ _ _ h) (Or.inl ⟨by rfl, ?_⟩) (⟨HB230.out, L231.out, L232.out⟩) ?_ ?_
    rotate_left
    ·intro w' hS
     have hl_ := hS.2.1
     go_simp
     with_reducible rfl
    rotate_left
    ·simp only [pS, pN, sB, sZ, sS, i64_w, i32_w]; rfl
    refine quiet_ (i := 13) (N := some 26) (a' := ?_) (ba 33 2487500799) rfl rfl (take_ofW HT_.out HW_.out (by kernel_rfl)) (fun _ _ _ h => hP _ _ _ _ _ h) (quiet_call Try.func22 (by kernel_rfl) rfl #[.slice A0 l0.length c0, .int .i64 1] (by rfl) rfl (by (try simp only [List.map_toArray, List.map_cons, List.map_nil]); first | done | rfl) (fun w' hS => g_quiet _ _ l0 1 t1 w' (Kd.C_below HR.out (hS.1)) HC.out H1.out)) (⟨HB230.out, L231.out, L232.out⟩) ?_ ?_
    rotate_left
    ·simp only [pS, pN, sB, sZ, sS, i64_w, i32_w]; rfl
    refine pure_ (i := 14) (N := some 27) (v := ?_) (a' := ?_) (ba 33 2487517183) rfl rfl (any_of HT_.out (by kernel_rfl)) (fun _ _ _ h => hP _ _ _ _ _ h) (Or.inl ⟨by rfl, ?_⟩) ?_ ?_
    rotate_left
    ·intro w'; go_simp; with_reducible rfl
    rotate_left
    ·simp only [pS, pN, sB, sZ, sS, i64_w, i32_w]; rfl
    refine pure_ (i := 15) (N := some 28) (v := ?_) (a' := ?_) (ba 33 2487549951) rfl rfl (any_of HT_.out (by kernel_rfl)) (fun _ _ _ h => hP _ _ _ _ _ h) (Or.inl ⟨by rfl, ?_⟩) ?_ ?_
    rotate_left
    ·intro w'; go_simp; with_reducible rfl
    rotate_left
    ·simp only [pS, pN, sB, sZ, sS, i64_w, i32_w]; rfl
    refine pure_ (i := 16) (N := some 29) (v := ?_) (a' := ?_) (ba 33 2487615487) rfl rfl (any_of HT_.out (by kernel_rfl)) (fun _ _ _ h => hP _ _ _ _ _ h) (Or.inl ⟨by rfl, ?_⟩) ?_ ?_
    rotate_left
    ·intro w'; go_simp; with_reducible rfl
    rotate_left
    ·simp only [pS, pN, sB, sZ, sS, i64_w, i32_w]; rfl
    refine take_ (i := 17) (N := some 30) (v := ?_) (a' := ?_) (ba 33 2487746559) rfl rfl (take_ofW HT_.out HW_.out (by kernel_rfl)) (fun _ _ _ h => hP _ _ _ _ _ h) (Or.inl ⟨by rfl, ?_⟩) (⟨HB230.out, L231.out, L232.out⟩) ?_ ?_
    rotate_left
    ·intro w' hS
     have hl_ := hS.2.2
     go_simp
     with_reducible rfl
    rotate_left
    ·simp only [pS, pN, sB, sZ, sS, i64_w, i32_w]; rfl
    refine quiet_ (i := 19) (N := some 32) (a' := ?_) (ba 33 2488270847) rfl rfl (take_ofW HT_.out HW_.out (by kernel_rfl)) (fun _ _ _ h => hP _ _ _ _ _ h) (quiet_call Try.func22 (by kernel_rfl) rfl #[.slice A0 l0.length c0, .int .i64 2] (by rfl) rfl (by (try simp only [List.map_toArray, List.map_cons, List.map_nil]); first | done | rfl) (fun w' hS => g_quiet _ _ l0 2 t2 w' (Kd.C_below HR.out (hS.1)) HC.out H2.out)) (⟨HB230.out, L231.out, L232.out⟩) ?_ ?_
    rotate_left
    ·simp only [pS, pN, sB, sZ, sS, i64_w, i32_w]; rfl
    refine pure_ (i := 20) (N := some 33) (v := ?_) (a' := ?_) (ba 33 2489319423) rfl rfl (any_of HT_.out (by kernel_rfl)) (fun _ _ _ h => hP _ _ _ _ _ h) (Or.inl ⟨by rfl, ?_⟩) ?_ ?_
    rotate_left
    ·intro w'; go_simp; with_reducible rfl
    rotate_left
    ·simp only [pS, pN, sB, sZ, sS, i64_w, i32_w]; rfl
    refine pure_ (i := 21) (N := some 34) (v := ?_) (a' := ?_) (ba 33 2491416575) rfl rfl (any_of HT_.out (by kernel_rfl)) (fun _ _ _ h => hP _ _ _ _ _ h) (Or.inl ⟨by rfl, ?_⟩) ?_ ?_
    rotate_left
    ·intro w'; go_simp; with_reducible rfl
    rotate_left
    ·simp only [pS, pN, sB, sZ, sS, i64_w, i32_w]; rfl
    refine quiet_ (i := 23) (N := some 36) (a' := ?_) (ba 33 2499805183) rfl rfl (take_ofW HT_.out HW_.out (by kernel_rfl)) (fun _ _ _ h => hP _ _ _ _ _ h) (quiet_call Try.func22 (by kernel_rfl) rfl #[.slice A0 l0.length c0, .int .i64 3] (by rfl) rfl (by (try simp only [List.map_toArray, List.map_cons, List.map_nil]); first | done | rfl) (fun w' hS => g_quiet _ _ l0 3 t3 w' (Kd.C_below HR.out (hS.1)) HC.out H3.out)) (⟨HB230.out, L231.out, L232.out⟩) ?_ ?_
    rotate_left
    ·simp only [pS, pN, sB, sZ, sS, i64_w, i32_w]; rfl
    refine pure_ (i := 24) (N := some 37) (v := ?_) (a' := ?_) (ba 33 2516582399) rfl rfl (any_of HT_.out (by kernel_rfl)) (fun _ _ _ h => hP _ _ _ _ _ h) (Or.inl ⟨by rfl, ?_⟩) ?_ ?_
    rotate_left
    ·intro w'; go_simp; with_reducible rfl
    rotate_left
    ·simp only [pS, pN, sB, sZ, sS, i64_w, i32_w]; rfl
    refine pure_ (i := 25) (N := some 38) (v := ?_) (a' := ?_) (ba 33 2550136831) rfl rfl (any_of HT_.out (by kernel_rfl)) (fun _ _ _ h => hP _ _ _ _ _ h) (Or.inl ⟨by rfl, ?_⟩) ?_ ?_
    rotate_left
    ·intro w'; go_simp; with_reducible rfl
    rotate_left
    ·simp only [pS, pN, sB, sZ, sS, i64_w, i32_w]; rfl
    refine quiet_ (i := 27) (N := some 40) (a' := ?_) (ba 33 2684354559) rfl rfl (take_ofW HT_.out HW_.out (by kernel_rfl)) (fun _ _ _ h => hP _ _ _ _ _ h) (quiet_call Try.func22 (by kernel_rfl) rfl #[.slice A0 l0.length c0, .int .i64 4] (by rfl) rfl (by (try simp only [List.map_toArray, List.map_cons, List.map_nil]); first | done | rfl) (fun w' hS => g_quiet _ _ l0 4 t4 w' (Kd.C_below HR.out (hS.1)) HC.out H4.out)) (⟨HB230.out, L231.out, L232.out⟩) ?_ ?_
    rotate_left
    ·simp only [pS, pN, sB, sZ, sS, i64_w, i32_w]; rfl
    refine pure_ (i := 29) (N := some 42) (v := ?_) (a' := ?_) (ba 33 3221225471) rfl rfl (any_of HT_.out (by kernel_rfl)) (fun _ _ _ h => hP _ _ _ _ _ h) (Or.inl ⟨by rfl, ?_⟩) ?_ ?_
    rotate_left
    ·intro w'; go_simp; with_reducible rfl
    rotate_left
    ·simp only [pS, pN, sB, sZ, sS, i64_w, i32_w]; rfl
    refine pure_ (i := 30) (N := some 43) (v := ?_) (a' := ?_) (ba 33 4294967295) rfl rfl (any_of HT_.out (by kernel_rfl)) (fun _ _ _ h => hP _ _ _ _ _ h) (Or.inl ⟨by rfl, ?_⟩) ?_ ?_
    rotate_left
    ·intro w'; go_simp; with_reducible rfl
    rotate_left
    ·simp only [pS, pN, sB, sZ, sS, i64_w, i32_w]; rfl
    refine one_ (i := 32) (N := none) (ba 33 8589934591) rfl rfl (one_of HT_.out (by kernel_rfl)) (by decide) (fun K hK => ?_)
    rw [if_pos (by rfl)]
    refine wp_store_row 46 _ _ rfl (w120.heap.size) (vR a1 a3 t2 t3 t4 tx s1 s2) rfl rfl 46 #[.int .i64 0, .string ⟨#[]⟩, .string ⟨#[]⟩, .string ⟨#[]⟩, .int .i64 0, .int .i64 0, .int .i64 0, .slice none 0 0, .slice none 0 0, .string ⟨#[]⟩] X233.out size46 rfl (one46 _ _ _ _ _ _ _ _) ?_
    have HB234 := Aside0.mk (below_setRow HB230.out GX205.out (vR a1 a3 t2 t3 t4 tx s1 s2))
    have HF_ := Aside0.mk (setRow_heap _ _ _ (vR a1 a3 t2 t3 t4 tx s1 s2) _ _ X233.out)
    have L235 := Aside0.mk ((cell_setRow_other _ _ (vR a1 a3 t2 t3 t4 tx s1 s2) _ NE204.out.symm).trans L231.out)
    have L236 := Aside0.mk ((cell_setRow_other _ _ (vR a1 a3 t2 t3 t4 tx s1 s2) _ NE227.out.symm).trans L232.out)
    refine hK.out _ _ (⟨HB234.out, L235.out, L236.out⟩) (fun _ => ?_)
    clear hK K
    refine done_ (done_of HT_.out (by kernel_rfl)) ?_
    exact HQ.out _ _ _ _ _ _ _ _ _ _ _ _ _ _ _ _ _ _ _ _ _ _ _ _ _ _ _ _ _ _ _ (w120.heap.size) _ GX205.out HB234.out HF_.out
 ·skip
  refine value_ (w1 := ?_) (v := ?_) (by rfl) rfl ?_ ?_
  rotate_left 2
  ·go_simp
   constructor
   ·rfl
   ·rfl
  have hb237 := Aside0.mk ((Below.refl _ w0).alloc (Nat.le_refl _) (.cells #[.string ⟨#[]⟩, .string (⟨#[97, 61, 49]⟩ : ByteArray), .string (⟨#[97, 61, 49, 44, 98, 61, 50]⟩ : ByteArray)] 9))
  have HB238 := Aside0.mk (below_step HB0.out hb237.out)
  have L239 := Aside0.mk (HLB.out w0)
  generalize hW_ : w0.alloc (.cells #[.string ⟨#[]⟩, .string (⟨#[97, 61, 49]⟩ : ByteArray), .string (⟨#[97, 61, 49, 44, 98, 61, 50]⟩ : ByteArray)] 9) = w240 at *
  clear hW_
  refine hK.out _ _ (HB238.out) (fun _ => ?_)
  clear hK K
  refine norm_ (a' := ?_) ?_ ?_
  rotate_left
  ·show Act.put _ (some 24) _ = _
   simp only [pS, pN, sB, sZ, sS]
   rfl
  refine restart_ (S2 := fun w' => Below w.heap.size w w' ∧ w'.cell? ⟨w0.heap.size, n2, none⟩ = some (.string s2)) (fun w' h => h.1) (⟨HB238.out, L239.out⟩) ?_
  refine three_ (i := 3) (j := 5) (k := 31) (Ni := some 16) (Nj := some 18) (Nk := some 9) (ba 33 340006991) (ba 33 340007015) (ba 33 2487490631) rfl rfl rfl rfl rfl rfl (three_of HT_.out (by kernel_rfl)) (by decide) (by decide) (by decide) (fun K hK => ?_) (fun K hK => ?_) (fun K hK => ?_)
  ·skip
   refine goes_ Try.func35 (by kernel_rfl) rfl #[.int .i64 t0, .int .i64 19] (by rfl) rfl rfl (by (try simp only [List.map_toArray, List.map_cons, List.map_nil]); first | done | rfl) ?_
   with_reducible refine (roadsteadlaw10_text.calls k t0 19 tx _ HX.out).mono ?_
   rintro e w241 ⟨rfl, hb0_⟩
   refine ⟨_, rfl, ?_⟩
   have hb242 := Aside0.mk hb0_
   clear hb0_
   have HB243 := Aside0.mk (below_step HB238.out hb242.out)
   have L244 := Aside0.mk ((hb242.out.cell (p := ⟨w0.heap.size, n2, none⟩) (block_lt_of_cell L239.out)).trans L239.out)
   refine hK.out _ _ (⟨HB243.out, L244.out⟩) (fun _ => ?_)
   clear hK K
   refine norm_ (a' := ?_) ?_ ?_
   rotate_left
   ·show Act.put _ (some 16) _ = _
    simp only [pS, pN, sB, sZ, sS]
    rfl
   refine pure_ (i := 4) (N := some 17) (v := ?_) (a' := ?_) (ba 33 340007007) rfl rfl (any_of HT_.out (by kernel_rfl)) (fun _ _ _ h => hP _ _ _ _ _ h) (Or.inl ⟨by rfl, ?_⟩) ?_ ?_
   rotate_left
   ·intro w'; go_simp; with_reducible rfl
   rotate_left
   ·simp only [pS, pN, sB, sZ, sS, i64_w, i32_w]; rfl
   refine quiet_ (i := 7) (N := some 20) (a' := ?_) (ba 33 340007135) rfl rfl (take_ofW HT_.out HW_.out (by kernel_rfl)) (fun _ _ _ h => hP _ _ _ _ _ h) (quiet_call Try.func22 (by kernel_rfl) rfl #[.slice A0 l0.length c0, .int .i64 1] (by rfl) rfl (by (try simp only [List.map_toArray, List.map_cons, List.map_nil]); first | done | rfl) (fun w' hS => g_quiet _ _ l0 1 t1 w' (Kd.C_below HR.out (hS.1)) HC.out H1.out)) (⟨HB243.out, L244.out⟩) ?_ ?_
   rotate_left
   ·simp only [pS, pN, sB, sZ, sS, i64_w, i32_w]; rfl
   refine pure_ (i := 8) (N := some 21) (v := ?_) (a' := ?_) (ba 33 340007391) rfl rfl (any_of HT_.out (by kernel_rfl)) (fun _ _ _ h => hP _ _ _ _ _ h) (Or.inl ⟨by rfl, ?_⟩) ?_ ?_
   rotate_left
   ·intro w'; go_simp; with_reducible rfl
   rotate_left
   ·simp only [pS, pN, sB, sZ, sS, i64_w, i32_w]; rfl
   refine quiet_ (i := 13) (N := some 26) (a' := ?_) (ba 33 340015583) rfl rfl (take_ofW HT_.out HW_.out (by kernel_rfl)) (fun _ _ _ h => hP _ _ _ _ _ h) (quiet_call Try.func22 (by kernel_rfl) rfl #[.slice A0 l0.length c0, .int .i64 1] (by rfl) rfl (by (try simp only [List.map_toArray, List.map_cons, List.map_nil]); first | done | rfl) (fun w' hS => g_quiet _ _ l0 1 t1 w' (Kd.C_below HR.out (hS.1)) HC.out H1.out)) (⟨HB243.out, L244.out⟩) ?_ ?_
   rotate_left
   ·simp only [pS, pN, sB, sZ, sS, i64_w, i32_w]; rfl
   refine pure_ (i := 14) (N := some 27) (v := ?_) (a' := ?_) (ba 33 340031967) rfl rfl (any_of HT_.out (by kernel_rfl)) (fun _ _ _ h => hP _ _ _ _ _ h) (Or.inl ⟨by rfl, ?_⟩) ?_ ?_
   rotate_left
   ·intro w'; go_simp; with_reducible rfl
   rotate_left
   ·simp only [pS, pN, sB, sZ, sS, i64_w, i32_w]; rfl
   refine pure_ (i := 15) (N := some 28) (v := ?_) (a' := ?_) (ba 33 340064735) rfl rfl (any_of HT_.out (by kernel_rfl)) (fun _ _ _ h => hP _ _ _ _ _ h) (Or.inl ⟨by rfl, ?_⟩) ?_ ?_
   rotate_left
   ·intro w'; go_simp; with_reducible rfl
   rotate_left
   ·simp only [pS, pN, sB, sZ, sS, i64_w, i32_w]; rfl
   refine pure_ (i := 16) (N := some 29) (v := ?_) (a' := ?_) (ba 33 340130271) rfl rfl (any_of HT_.out (by kernel_rfl)) (fun _ _ _ h => hP _ _ _ _ _ h) (Or.inl ⟨by rfl, ?_⟩) ?_ ?_
   rotate_left
   ·intro w'; go_simp; with_reducible rfl
   rotate_left
   ·simp only [pS, pN, sB, sZ, sS, i64_w, i32_w]; rfl
   refine take_ (i := 17) (N := some 30) (v := ?_) (a' := ?_) (ba 33 340261343) rfl rfl (take_ofW HT_.out HW_.out (by kernel_rfl)) (fun _ _ _ h => hP _ _ _ _ _ h) (Or.inl ⟨by rfl, ?_⟩) (⟨HB243.out, L244.out⟩) ?_ ?_
   rotate_left
   ·intro w' hS
    have hl_ := hS.2
    go_simp
    with_reducible rfl
   rotate_left
   ·simp only [pS, pN, sB, sZ, sS, i64_w, i32_w]; rfl
   refine quiet_ (i := 19) (N := some 32) (a' := ?_) (ba 33 340785631) rfl rfl (take_ofW HT_.out HW_.out (by kernel_rfl)) (fun _ _ _ h => hP _ _ _ _ _ h) (quiet_call Try.func22 (by kernel_rfl) rfl #[.slice A0 l0.length c0, .int .i64 2] (by rfl) rfl (by (try simp only [List.map_toArray, List.map_cons, List.map_nil]); first | done | rfl) (fun w' hS => g_quiet _ _ l0 2 t2 w' (Kd.C_below HR.out (hS.1)) HC.out H2.out)) (⟨HB243.out, L244.out⟩) ?_ ?_
   rotate_left
   ·simp only [pS, pN, sB, sZ, sS, i64_w, i32_w]; rfl
   refine pure_ (i := 20) (N := some 33) (v := ?_) (a' := ?_) (ba 33 341834207) rfl rfl (any_of HT_.out (by kernel_rfl)) (fun _ _ _ h => hP _ _ _ _ _ h) (Or.inl ⟨by rfl, ?_⟩) ?_ ?_
   rotate_left
   ·intro w'; go_simp; with_reducible rfl
   rotate_left
   ·simp only [pS, pN, sB, sZ, sS, i64_w, i32_w]; rfl
   refine pure_ (i := 21) (N := some 34) (v := ?_) (a' := ?_) (ba 33 343931359) rfl rfl (any_of HT_.out (by kernel_rfl)) (fun _ _ _ h => hP _ _ _ _ _ h) (Or.inl ⟨by rfl, ?_⟩) ?_ ?_
   rotate_left
   ·intro w'; go_simp; with_reducible rfl
   rotate_left
   ·simp only [pS, pN, sB, sZ, sS, i64_w, i32_w]; rfl
   refine quiet_ (i := 23) (N := some 36) (a' := ?_) (ba 33 352319967) rfl rfl (take_ofW HT_.out HW_.out (by kernel_rfl)) (fun _ _ _ h => hP _ _ _ _ _ h) (quiet_call Try.func22 (by kernel_rfl) rfl #[.slice A0 l0.length c0, .int .i64 3] (by rfl) rfl (by (try simp only [List.map_toArray, List.map_cons, List.map_nil]); first | done | rfl) (fun w' hS => g_quiet _ _ l0 3 t3 w' (Kd.C_below HR.out (hS.1)) HC.out H3.out)) (⟨HB243.out, L244.out⟩) ?_ ?_
   rotate_left
   ·simp only [pS, pN, sB, sZ, sS, i64_w, i32_w]; rfl
   refine pure_ (i := 24) (N := some 37) (v := ?_) (a' := ?_) (ba 33 369097183) rfl rfl (any_of HT_.out (by kernel_rfl)) (fun _ _ _ h => hP _ _ _ _ _ h) (Or.inl ⟨by rfl, ?_⟩) ?_ ?_
   rotate_left
   ·intro w'; go_simp; with_reducible rfl
   rotate_left
   ·simp only [pS, pN, sB, sZ, sS, i64_w, i32_w]; rfl
   refine pure_ (i := 25) (N := some 38) (v := ?_) (a' := ?_) (ba 33 402651615) rfl rfl (any_of HT_.out (by kernel_rfl)) (fun _ _ _ h => hP _ _ _ _ _ h) (Or.inl ⟨by rfl, ?_⟩) ?_ ?_
   rotate_left
   ·intro w'; go_simp; with_reducible rfl
   rotate_left
   ·simp only [pS, pN, sB, sZ, sS, i64_w, i32_w]; rfl
   refine quiet_ (i := 27) (N := some 40) (a' := ?_) (ba 33 536869343) rfl rfl (take_ofW HT_.out HW_.out (by kernel_rfl)) (fun _ _ _ h => hP _ _ _ _ _ h) (quiet_call Try.func22 (by kernel_rfl) rfl #[.slice A0 l0.length c0, .int .i64 4] (by rfl) rfl (by (try simp only [List.map_toArray, List.map_cons, List.map_nil]); first | done | rfl) (fun w' hS => g_quiet _ _ l0 4 t4 w' (Kd.C_below HR.out (hS.1)) HC.out H4.out)) (⟨HB243.out, L244.out⟩) ?_ ?_
   rotate_left
   ·simp only [pS, pN, sB, sZ, sS, i64_w, i32_w]; rfl
   refine pure_ (i := 29) (N := some 42) (v := ?_) (a' := ?_) (ba 33 1073740255) rfl rfl (any_of HT_.out (by kernel_rfl)) (fun _ _ _ h => hP _ _ _ _ _ h) (Or.inl ⟨by rfl, ?_⟩) ?_ ?_
   rotate_left
   ·intro w'; go_simp; with_reducible rfl
   rotate_left
   ·simp only [pS, pN, sB, sZ, sS, i64_w, i32_w]; rfl
   refine two_ (i := 5) (j := 31) (Ni := some 18) (Nj := some 9) (ba 33 1073740287) (ba 33 3221223903) rfl rfl rfl rfl (two_of HT_.out (by kernel_rfl)) (by decide) (by decide) (fun K hK => ?_) (fun K hK => ?_)
   ·skip
    refine value_ (w1 := ?_) (v := ?_) (by rfl) rfl ?_ ?_
    rotate_left 2
    ·go_simp
     constructor
     ·rfl
     ·rfl
    have hb245 := Aside0.mk ((Below.refl _ w241).alloc (Nat.le_refl _) (.cells #[.string (⟨#[35]⟩ : ByteArray), .string (⟨#[97]⟩ : ByteArray), .string (⟨#[97, 47, 43]⟩ : ByteArray), .string (⟨#[98, 47, 35]⟩ : ByteArray)] 9))
    have HB246 := Aside0.mk (below_step HB243.out hb245.out)
    have L247 := Aside0.mk (HLA.out w241)
    have L249 := Aside0.mk ((hb245.out.cell (p := ⟨w0.heap.size, n2, none⟩) (block_lt_of_cell L244.out)).trans L244.out)
    generalize hW_ : w241.alloc (.cells #[.string (⟨#[35]⟩ : ByteArray), .string (⟨#[97]⟩ : ByteArray), .string (⟨#[97, 47, 43]⟩ : ByteArray), .string (⟨#[98, 47, 35]⟩ : ByteArray)] 9) = w248 at *
    clear hW_
    refine hK.out _ _ (⟨HB246.out, L249.out⟩) (fun _ => ?_)
    clear hK K
    refine norm_ (a' := ?_) ?_ ?_
    rotate_left
    ·show Act.put _ (some 18) _ = _
     simp only [pS, pN, sB, sZ, sS]
     rfl
    refine restart_ (S2 := fun w' => Below w.heap.size w w' ∧ w'.cell? ⟨w0.heap.size, n2, none⟩ = some (.string s2) ∧ w'.cell? ⟨w241.heap.size, n1, none⟩ = some (.string s1)) (fun w' h => ⟨h.1, h.2.1⟩) (⟨HB246.out, L249.out, L247.out⟩) ?_
    refine pure_ (i := 9) (N := some 22) (v := ?_) (a' := ?_) (ba 33 1073740799) rfl rfl (any_of HT_.out (by kernel_rfl)) (fun _ _ _ h => hP _ _ _ _ _ h) (Or.inl ⟨by rfl, ?_⟩) ?_ ?_
    rotate_left
    ·intro w'; go_simp; with_reducible rfl
    rotate_left
    ·simp only [pS, pN, sB, sZ, sS, i64_w, i32_w]; rfl
    refine take_ (i := 10) (N := some 23) (v := ?_) (a' := ?_) (ba 33 1073741823) rfl rfl (take_ofW HT_.out HW_.out (by kernel_rfl)) (fun _ _ _ h => hP _ _ _ _ _ h) (Or.inl ⟨by rfl, ?_⟩) (⟨HB246.out, L249.out, L247.out⟩) ?_ ?_
    rotate_left
    ·intro w' hS
     have hl_ := hS.2.2
     go_simp
     with_reducible rfl
    rotate_left
    ·simp only [pS, pN, sB, sZ, sS, i64_w, i32_w]; rfl
    refine pure_ (i := 30) (N := some 43) (v := ?_) (a' := ?_) (ba 33 2147483647) rfl rfl (any_of HT_.out (by kernel_rfl)) (fun _ _ _ h => hP _ _ _ _ _ h) (Or.inl ⟨by rfl, ?_⟩) ?_ ?_
    rotate_left
    ·intro w'; go_simp; with_reducible rfl
    rotate_left
    ·simp only [pS, pN, sB, sZ, sS, i64_w, i32_w]; rfl
    refine one_ (i := 31) (N := some 9) (ba 33 4294967295) rfl rfl (one_of HT_.out (by kernel_rfl)) (by decide) (fun K hK => ?_)
    refine value_ (w1 := ?_) (v := ?_) (by rfl) rfl ?_ ?_
    rotate_left 2
    ·go_simp
     constructor
     ·rfl
     ·rfl
    have hb250 := Aside0.mk ((Below.refl _ w248).alloc (Nat.le_refl _) (.cells #[.int .i64 0, .string ⟨#[]⟩, .string ⟨#[]⟩, .string ⟨#[]⟩, .int .i64 0, .int .i64 0, .int .i64 0, .slice none 0 0, .slice none 0 0, .string ⟨#[]⟩] 46))
    have HB251 := Aside0.mk (below_step HB246.out hb250.out)
    have X252 := Aside0.mk (heap_alloc_new w248 (.cells #[.int .i64 0, .string ⟨#[]⟩, .string ⟨#[]⟩, .string ⟨#[]⟩, .int .i64 0, .int .i64 0, .int .i64 0, .slice none 0 0, .slice none 0 0, .string ⟨#[]⟩] 46))
    have L254 := Aside0.mk ((hb250.out.cell (p := ⟨w0.heap.size, n2, none⟩) (block_lt_of_cell L249.out)).trans L249.out)
    have L255 := Aside0.mk ((hb250.out.cell (p := ⟨w241.heap.size, n1, none⟩) (block_lt_of_cell L247.out)).trans L247.out)
    generalize hW_ : w248.alloc (.cells #[.int .i64 0, .string ⟨#[]⟩, .string ⟨#[]⟩, .string ⟨#[]⟩, .int .i64 0, .int .i64 0, .int .i64 0, .slice none 0 0, .slice none 0 0, .string ⟨#[]⟩] 46) = w253 at *
    clear hW_
    have NE256 := Aside0.mk (Nat.ne_of_gt (block_lt_of_cell L249.out))
    have NE257 := Aside0.mk (Nat.ne_of_gt (block_lt_of_cell L247.out))
    have GX258 := Aside0.mk (HB246.out.size)
    refine hK.out _ _ (⟨HB251.out, L254.out, L255.out⟩) (fun _ => ?_)
    clear hK K
    refine norm_ (a' := ?_) ?_ ?_
    rotate_left
    ·show Act.put _ (some 9) _ = _
     simp only [pS, pN, sB, sZ, sS]
     rfl
    refine one_ (i := 32) (N := none) (ba 33 8589934591) rfl rfl (one_of HT_.out (by kernel_rfl)) (by decide) (fun K hK => ?_)
    rw [if_pos (by rfl)]
    refine wp_store_row 46 _ _ rfl (w248.heap.size) (vR a1 a3 t2 t3 t4 tx s1 s2) rfl rfl 46 #[.int .i64 0, .string ⟨#[]⟩, .string ⟨#[]⟩, .string ⟨#[]⟩, .int .i64 0, .int .i64 0, .int .i64 0, .slice none 0 0, .slice none 0 0, .string ⟨#[]⟩] X252.out size46 rfl (one46 _ _ _ _ _ _ _ _) ?_
    have HB259 := Aside0.mk (below_setRow HB251.out GX258.out (vR a1 a3 t2 t3 t4 tx s1 s2))
    have HF_ := Aside0.mk (setRow_heap _ _ _ (vR a1 a3 t2 t3 t4 tx s1 s2) _ _ X252.out)
    have L260 := Aside0.mk ((cell_setRow_other _ _ (vR a1 a3 t2 t3 t4 tx s1 s2) _ NE256.out.symm).trans L254.out)
    have L261 := Aside0.mk ((cell_setRow_other _ _ (vR a1 a3 t2 t3 t4 tx s1 s2) _ NE257.out.symm).trans L255.out)
    refine hK.out _ _ (⟨HB259.out, L260.out, L261.out⟩) (fun _ => ?_)
    clear hK K
    refine done_ (done_of HT_.out (by kernel_rfl)) ?_
    exact HQ.out _ _ _ _ _ _ _ _ _ _ _ _ _ _ _ _ _ _ _ _ _ _ _ _ _ _ _ _ _ _ _ (w248.heap.size) _ GX258.out HB259.out HF_.out
   ·skip
    refine value_ (w1 := ?_) (v := ?_) (by rfl) rfl ?_ ?_
    rotate_left 2
    ·go_simp
     constructor
     ·rfl
     ·rfl
    have hb262 := Aside0.mk ((Below.refl _ w241).alloc (Nat.le_refl _) (.cells #[.int .i64 0, .string ⟨#[]⟩, .string ⟨#[]⟩, .string ⟨#[]⟩, .int .i64 0, .int .i64 0, .int .i64 0, .slice none 0 0, .slice none 0 0, .string ⟨#[]⟩] 46))
    have HB263 := Aside0.mk (below_step HB243.out hb262.out)
    have X264 := Aside0.mk (heap_alloc_new w241 (.cells #[.int .i64 0, .string ⟨#[]⟩, .string ⟨#[]⟩, .string ⟨#[]⟩, .int .i64 0, .int .i64 0, .int .i64 0, .slice none 0 0, .slice none 0 0, .string ⟨#[]⟩] 46))
    have L266 := Aside0.mk ((hb262.out.cell (p := ⟨w0.heap.size, n2, none⟩) (block_lt_of_cell L244.out)).trans L244.out)
    generalize hW_ : w241.alloc (.cells #[.int .i64 0, .string ⟨#[]⟩, .string ⟨#[]⟩, .string ⟨#[]⟩, .int .i64 0, .int .i64 0, .int .i64 0, .slice none 0 0, .slice none 0 0, .string ⟨#[]⟩] 46) = w265 at *
    clear hW_
    have NE267 := Aside0.mk (Nat.ne_of_gt (block_lt_of_cell L244.out))
    have GX268 := Aside0.mk (HB243.out.size)
    refine hK.out _ _ (⟨HB263.out, L266.out⟩) (fun _ => ?_)
    clear hK K
    refine norm_ (a' := ?_) ?_ ?_
    rotate_left
    ·show Act.put _ (some 9) _ = _
     simp only [pS, pN, sB, sZ, sS]
     rfl
    refine one_ (i := 5) (N := some 18) (ba 33 3221223935) rfl rfl (one_of HT_.out (by kernel_rfl)) (by decide) (fun K hK => ?_)
    refine value_ (w1 := ?_) (v := ?_) (by rfl) rfl ?_ ?_
    rotate_left 2
    ·go_simp
     constructor
     ·rfl
     ·rfl
    have hb269 := Aside0.mk ((Below.refl _ w265).alloc (Nat.le_refl _) (.cells #[.string (⟨#[35]⟩ : ByteArray), .string (⟨#[97]⟩ : ByteArray), .string (⟨#[97, 47, 43]⟩ : ByteArray), .string (⟨#[98, 47, 35]⟩ : ByteArray)] 9))
    have HB270 := Aside0.mk (below_step HB263.out hb269.out)
    have L271 := Aside0.mk (HLA.out w265)
    have L273 := Aside0.mk ((hb269.out.cell (p := ⟨w0.heap.size, n2, none⟩) (block_lt_of_cell L266.out)).trans L266.out)
    have X274 := Aside0.mk ((hb269.out.block _ (Array.getElem?_eq_some_iff.1 X264.out).1).trans X264.out)
    generalize hW_ : w265.alloc (.cells #[.string (⟨#[35]⟩ : ByteArray), .string (⟨#[97]⟩ : ByteArray), .string (⟨#[97, 47, 43]⟩ : ByteArray), .string (⟨#[98, 47, 35]⟩ : ByteArray)] 9) = w272 at *
    clear hW_
    have NE275 := Aside0.mk (Nat.ne_of_lt (Array.getElem?_eq_some_iff.1 X264.out).1)
    refine hK.out _ _ (⟨HB270.out, L273.out⟩) (fun _ => ?_)
    clear hK K
    refine norm_ (a' := ?_) ?_ ?_
    rotate_left
    ·show Act.put _ (some 18) _ = _
     simp only [pS, pN, sB, sZ, sS]
     rfl
    refine restart_ (S2 := fun w' => Below w.heap.size w w' ∧ w'.cell? ⟨w0.heap.size, n2, none⟩ = some (.string s2) ∧ w'.cell? ⟨w265.heap.size, n1, none⟩ = some (.string s1)) (fun w' h => ⟨h.1, h.2.1⟩) (⟨HB270.out, L273.out, L271.out⟩) ?_
    refine pure_ (i := 9) (N := some 22) (v := ?_) (a' := ?_) (ba 33 3221224447) rfl rfl (any_of HT_.out (by kernel_rfl)) (fun _ _ _ h => hP _ _ _ _ _ h) (Or.inl ⟨by rfl, ?_⟩) ?_ ?_
    rotate_left
    ·intro w'; go_simp; with_reducible rfl
    rotate_left
    ·simp only [pS, pN, sB, sZ, sS, i64_w, i32_w]; rfl
    refine take_ (i := 10) (N := some 23) (v := ?_) (a' := ?_) (ba 33 3221225471) rfl rfl (take_ofW HT_.out HW_.out (by kernel_rfl)) (fun _ _ _ h => hP _ _ _ _ _ h) (Or.inl ⟨by rfl, ?_⟩) (⟨HB270.out, L273.out, L271.out⟩) ?_ ?_
    rotate_left
    ·intro w' hS
     have hl_ := hS.2.2
     go_simp
     with_reducible rfl
    rotate_left
    ·simp only [pS, pN, sB, sZ, sS, i64_w, i32_w]; rfl
    refine pure_ (i := 30) (N := some 43) (v := ?_) (a' := ?_) (ba 33 4294967295) rfl rfl (any_of HT_.out (by kernel_rfl)) (fun _ _ _ h => hP _ _ _ _ _ h) (Or.inl ⟨by rfl, ?_⟩) ?_ ?_
    rotate_left
    ·intro w'; go_simp; with_reducible rfl
    rotate_left
    ·simp only [pS, pN, sB, sZ, sS, i64_w, i32_w]; rfl
    refine one_ (i := 32) (N := none) (ba 33 8589934591) rfl rfl (one_of HT_.out (by kernel_rfl)) (by decide) (fun K hK => ?_)
    rw [if_pos (by rfl)]
    refine wp_store_row 46 _ _ rfl (w241.heap.size) (vR a1 a3 t2 t3 t4 tx s1 s2) rfl rfl 46 #[.int .i64 0, .string ⟨#[]⟩, .string ⟨#[]⟩, .string ⟨#[]⟩, .int .i64 0, .int .i64 0, .int .i64 0, .slice none 0 0, .slice none 0 0, .string ⟨#[]⟩] X274.out size46 rfl (one46 _ _ _ _ _ _ _ _) ?_
    have HB276 := Aside0.mk (below_setRow HB270.out GX268.out (vR a1 a3 t2 t3 t4 tx s1 s2))
    have HF_ := Aside0.mk (setRow_heap _ _ _ (vR a1 a3 t2 t3 t4 tx s1 s2) _ _ X274.out)
    have L277 := Aside0.mk ((cell_setRow_other _ _ (vR a1 a3 t2 t3 t4 tx s1 s2) _ NE267.out.symm).trans L273.out)
    have L278 := Aside0.mk ((cell_setRow_other _ _ (vR a1 a3 t2 t3 t4 tx s1 s2) _ NE275.out.symm).trans L271.out)
    refine hK.out _ _ (⟨HB276.out, L277.out, L278.out⟩) (fun _ => ?_)
    clear hK K
    refine done_ (done_of HT_.out (by kernel_rfl)) ?_
    exact HQ.out _ _ _ _ _ _ _ _ _ _ _ _ _ _ _ _ _ _ _ _ _ _ _ _ _ _ _ _ _ _ _ (w241.heap.size) _ GX268.out HB276.out HF_.out
  ·skip
   refine value_ (w1 := ?_) (v := ?_) (by rfl) rfl ?_ ?_
   rotate_left 2
   ·go_simp
    constructor
    ·rfl
    ·rfl
   have hb279 := Aside0.mk ((Below.refl _ w240).alloc (Nat.le_refl _) (.cells #[.string (⟨#[35]⟩ : ByteArray), .string (⟨#[97]⟩ : ByteArray), .string (⟨#[97, 47, 43]⟩ : ByteArray), .string (⟨#[98, 47, 35]⟩ : ByteArray)] 9))
   have HB280 := Aside0.mk (below_step HB238.out hb279.out)
   have L281 := Aside0.mk (HLA.out w240)
   have L283 := Aside0.mk ((hb279.out.cell (p := ⟨w0.heap.size, n2, none⟩) (block_lt_of_cell L239.out)).trans L239.out)
   generalize hW_ : w240.alloc (.cells #[.string (⟨#[35]⟩ : ByteArray), .string (⟨#[97]⟩ : ByteArray), .string (⟨#[97, 47, 43]⟩ : ByteArray), .string (⟨#[98, 47, 35]⟩ : ByteArray)] 9) = w282 at *
   clear hW_
   refine hK.out _ _ (⟨HB280.out, L283.out⟩) (fun _ => ?_)
   clear hK K
   refine norm_ (a' := ?_) ?_ ?_
   rotate_left
   ·show Act.put _ (some 18) _ = _
    simp only [pS, pN, sB, sZ, sS]
    rfl
   refine restart_ (S2 := fun w' => Below w.heap.size w w' ∧ w'.cell? ⟨w0.heap.size, n2, none⟩ = some (.string s2) ∧ w'.cell? ⟨w240.heap.size, n1, none⟩ = some (.string s1)) (fun w' h => ⟨h.1, h.2.1⟩) (⟨HB280.out, L283.out, L281.out⟩) ?_
   refine two_ (i := 3) (j := 31) (Ni := some 16) (Nj := some 9) (ba 33 340007023) (ba 33 2487490663) rfl rfl rfl rfl (two_of HT_.out (by kernel_rfl)) (by decide) (by decide) (fun K hK => ?_) (fun K hK => ?_)
   ·skip
    refine goes_ Try.func35 (by kernel_rfl) rfl #[.int .i64 t0, .int .i64 19] (by rfl) rfl rfl (by (try simp only [List.map_toArray, List.map_cons, List.map_nil]); first | done | rfl) ?_
    with_reducible refine (roadsteadlaw10_text.calls k t0 19 tx _ HX.out).mono ?_
    rintro e w284 ⟨rfl, hb0_⟩
    refine ⟨_, rfl, ?_⟩
    have hb285 := Aside0.mk hb0_
    clear hb0_
    have HB286 := Aside0.mk (below_step HB280.out hb285.out)
    have L287 := Aside0.mk ((hb285.out.cell (p := ⟨w0.heap.size, n2, none⟩) (block_lt_of_cell L283.out)).trans L283.out)
    have L288 := Aside0.mk ((hb285.out.cell (p := ⟨w240.heap.size, n1, none⟩) (block_lt_of_cell L281.out)).trans L281.out)
    refine hK.out _ _ (⟨HB286.out, L287.out, L288.out⟩) (fun _ => ?_)
    clear hK K
    refine norm_ (a' := ?_) ?_ ?_
    rotate_left
    ·show Act.put _ (some 16) _ = _
     simp only [pS, pN, sB, sZ, sS]
     rfl
    refine pure_ (i := 4) (N := some 17) (v := ?_) (a' := ?_) (ba 33 340007039) rfl rfl (any_of HT_.out (by kernel_rfl)) (fun _ _ _ h => hP _ _ _ _ _ h) (Or.inl ⟨by rfl, ?_⟩) ?_ ?_
    rotate_left
    ·intro w'; go_simp; with_reducible rfl
    rotate_left
    ·simp only [pS, pN, sB, sZ, sS, i64_w, i32_w]; rfl
    refine quiet_ (i := 7) (N := some 20) (a' := ?_) (ba 33 340007167) rfl rfl (take_ofW HT_.out HW_.out (by kernel_rfl)) (fun _ _ _ h => hP _ _ _ _ _ h) (quiet_call Try.func22 (by kernel_rfl) rfl #[.slice A0 l0.length c0, .int .i64 1] (by rfl) rfl (by (try simp only [List.map_toArray, List.map_cons, List.map_nil]); first | done | rfl) (fun w' hS => g_quiet _ _ l0 1 t1 w' (Kd.C_below HR.out (hS.1)) HC.out H1.out)) (⟨HB286.out, L287.out, L288.out⟩) ?_ ?_
    rotate_left
    ·simp only [pS, pN, sB, sZ, sS, i64_w, i32_w]; rfl
    refine pure_ (i := 8) (N := some 21) (v := ?_) (a' := ?_) (ba 33 340007423) rfl rfl (any_of HT_.out (by kernel_rfl)) (fun _ _ _ h => hP _ _ _ _ _ h) (Or.inl ⟨by rfl, ?_⟩) ?_ ?_
    rotate_left
    ·intro w'; go_simp; with_reducible rfl
    rotate_left
    ·simp only [pS, pN, sB, sZ, sS, i64_w, i32_w]; rfl
    refine pure_ (i := 9) (N := some 22) (v := ?_) (a' := ?_) (ba 33 340007935) rfl rfl (any_of HT_.out (by kernel_rfl)) (fun _ _ _ h => hP _ _ _ _ _ h) (Or.inl ⟨by rfl, ?_⟩) ?_ ?_
    rotate_left
    ·intro w'; go_simp; with_reducible rfl
    rotate_left
    ·simp only [pS, pN, sB, sZ, sS, i64_w, i32_w]; rfl
    refine take_ (i := 10) (N := some 23) (v := ?_) (a' := ?_) (ba 33 340008959) rfl rfl (take_ofW HT_.out HW_.out (by kernel_rfl)) (fun _ _ _ h => hP _ _ _ _ _ h) (Or.inl ⟨by rfl, ?_⟩) (⟨HB286.out, L287.out, L288.out⟩) ?_ ?_
    rotate_left
    ·intro w' hS
     have hl_ := hS.2.2
     go_simp
     with_reducible rfl
    rotate_left
    ·simp only [pS, pN, sB, sZ, sS, i64_w, i32_w]; rfl
    refine quiet_ (i := 13) (N := some 26) (a' := ?_) (ba 33 340017151) rfl rfl (take_ofW HT_.out HW_.out (by kernel_rfl)) (fun _ _ _ h => hP _ _ _ _ _ h) (quiet_call Try.func22 (by kernel_rfl) rfl #[.slice A0 l0.length c0, .int .i64 1] (by rfl) rfl (by (try simp only [List.map_toArray, List.map_cons, List.map_nil]); first | done | rfl) (fun w' hS => g_quiet _ _ l0 1 t1 w' (Kd.C_below HR.out (hS.1)) HC.out H1.out)) (⟨HB286.out, L287.out, L288.out⟩) ?_ ?_
    rotate_left
    ·simp only [pS, pN, sB, sZ, sS, i64_w, i32_w]; rfl
    refine pure_ (i := 14) (N := some 27) (v := ?_) (a' := ?_) (ba 33 340033535) rfl rfl (any_of HT_.out (by kernel_rfl)) (fun _ _ _ h => hP _ _ _ _ _ h) (Or.inl ⟨by rfl, ?_⟩) ?_ ?_
    rotate_left
    ·intro w'; go_simp; with_reducible rfl
    rotate_left
    ·simp only [pS, pN, sB, sZ, sS, i64_w, i32_w]; rfl
    refine pure_ (i := 15) (N := some 28) (v := ?_) (a' := ?_) (ba 33 340066303) rfl rfl (any_of HT_.out (by kernel_rfl)) (fun _ _ _ h => hP _ _ _ _ _ h) (Or.inl ⟨by rfl, ?_⟩) ?_ ?_
    rotate_left
    ·intro w'; go_simp; with_reducible rfl
    rotate_left
    ·simp only [pS, pN, sB, sZ, sS, i64_w, i32_w]; rfl
    refine pure_ (i := 16) (N := some 29) (v := ?_) (a' := ?_) (ba 33 340131839) rfl rfl (any_of HT_.out (by kernel_rfl)) (fun _ _ _ h => hP _ _ _ _ _ h) (Or.inl ⟨by rfl, ?_⟩) ?_ ?_
    rotate_left
    ·intro w'; go_simp; with_reducible rfl
    rotate_left
    ·simp only [pS, pN, sB, sZ, sS, i64_w, i32_w]; rfl
    refine take_ (i := 17) (N := some 30) (v := ?_) (a' := ?_) (ba 33 340262911) rfl rfl (take_ofW HT_.out HW_.out (by kernel_rfl)) (fun _ _ _ h => hP _ _ _ _ _ h) (Or.inl ⟨by rfl, ?_⟩) (⟨HB286.out, L287.out, L288.out⟩) ?_ ?_
    rotate_left
    ·intro w' hS
     have hl_ := hS.2.1
     go_simp
     with_reducible rfl
    rotate_left
    ·simp only [pS, pN, sB, sZ, sS, i64_w, i32_w]; rfl
    refine quiet_ (i := 19) (N := some 32) (a' := ?_) (ba 33 340787199) rfl rfl (take_ofW HT_.out HW_.out (by kernel_rfl)) (fun _ _ _ h => hP _ _ _ _ _ h) (quiet_call Try.func22 (by kernel_rfl) rfl #[.slice A0 l0.length c0, .int .i64 2] (by rfl) rfl (by (try simp only [List.map_toArray, List.map_cons, List.map_nil]); first | done | rfl) (fun w' hS => g_quiet _ _ l0 2 t2 w' (Kd.C_below HR.out (hS.1)) HC.out H2.out)) (⟨HB286.out, L287.out, L288.out⟩) ?_ ?_
    rotate_left
    ·simp only [pS, pN, sB, sZ, sS, i64_w, i32_w]; rfl
    refine pure_ (i := 20) (N := some 33) (v := ?_) (a' := ?_) (ba 33 341835775) rfl rfl (any_of HT_.out (by kernel_rfl)) (fun _ _ _ h => hP _ _ _ _ _ h) (Or.inl ⟨by rfl, ?_⟩) ?_ ?_
    rotate_left
    ·intro w'; go_simp; with_reducible rfl
    rotate_left
    ·simp only [pS, pN, sB, sZ, sS, i64_w, i32_w]; rfl
    refine pure_ (i := 21) (N := some 34) (v := ?_) (a' := ?_) (ba 33 343932927) rfl rfl (any_of HT_.out (by kernel_rfl)) (fun _ _ _ h => hP _ _ _ _ _ h) (Or.inl ⟨by rfl, ?_⟩) ?_ ?_
    rotate_left
    ·intro w'; go_simp; with_reducible rfl
    rotate_left
    ·simp only [pS, pN, sB, sZ, sS, i64_w, i32_w]; rfl
    refine quiet_ (i := 23) (N := some 36) (a' := ?_) (ba 33 352321535) rfl rfl (take_ofW HT_.out HW_.out (by kernel_rfl)) (fun _ _ _ h => hP _ _ _ _ _ h) (quiet_call Try.func22 (by kernel_rfl) rfl #[.slice A0 l0.length c0, .int .i64 3] (by rfl) rfl (by (try simp only [List.map_toArray, List.map_cons, List.map_nil]); first | done | rfl) (fun w' hS => g_quiet _ _ l0 3 t3 w' (Kd.C_below HR.out (hS.1)) HC.out H3.out)) (⟨HB286.out, L287.out, L288.out⟩) ?_ ?_
    rotate_left
    ·simp only [pS, pN, sB, sZ, sS, i64_w, i32_w]; rfl
    refine pure_ (i := 24) (N := some 37) (v := ?_) (a' := ?_) (ba 33 369098751) rfl rfl (any_of HT_.out (by kernel_rfl)) (fun _ _ _ h => hP _ _ _ _ _ h) (Or.inl ⟨by rfl, ?_⟩) ?_ ?_
    rotate_left
    ·intro w'; go_simp; with_reducible rfl
    rotate_left
    ·simp only [pS, pN, sB, sZ, sS, i64_w, i32_w]; rfl
    refine pure_ (i := 25) (N := some 38) (v := ?_) (a' := ?_) (ba 33 402653183) rfl rfl (any_of HT_.out (by kernel_rfl)) (fun _ _ _ h => hP _ _ _ _ _ h) (Or.inl ⟨by rfl, ?_⟩) ?_ ?_
    rotate_left
    ·intro w'; go_simp; with_reducible rfl
    rotate_left
    ·simp only [pS, pN, sB, sZ, sS, i64_w, i32_w]; rfl
    refine quiet_ (i := 27) (N := some 40) (a' := ?_) (ba 33 536870911) rfl rfl (take_ofW HT_.out HW_.out (by kernel_rfl)) (fun _ _ _ h => hP _ _ _ _ _ h) (quiet_call Try.func22 (by kernel_rfl) rfl #[.slice A0 l0.length c0, .int .i64 4] (by rfl) rfl (by (try simp only [List.map_toArray, List.map_cons, List.map_nil]); first | done | rfl) (fun w' hS => g_quiet _ _ l0 4 t4 w' (Kd.C_below HR.out (hS.1)) HC.out H4.out)) (⟨HB286.out, L287.out, L288.out⟩) ?_ ?_
    rotate_left
    ·simp only [pS, pN, sB, sZ, sS, i64_w, i32_w]; rfl
    refine pure_ (i := 29) (N := some 42) (v := ?_) (a' := ?_) (ba 33 1073741823) rfl rfl (any_of HT_.out (by kernel_rfl)) (fun _ _ _ h => hP _ _ _ _ _ h) (Or.inl ⟨by rfl, ?_⟩) ?_ ?_
    rotate_left
    ·intro w'; go_simp; with_reducible rfl
    rotate_left
    ·simp only [pS, pN, sB, sZ, sS, i64_w, i32_w]; rfl
    refine pure_ (i := 30) (N := some 43) (v := ?_) (a' := ?_) (ba 33 2147483647) rfl rfl (any_of HT_.out (by kernel_rfl)) (fun _ _ _ h => hP _ _ _ _ _ h) (Or.inl ⟨by rfl, ?_⟩) ?_ ?_
    rotate_left
    ·intro w'; go_simp; with_reducible rfl
    rotate_left
    ·simp only [pS, pN, sB, sZ, sS, i64_w, i32_w]; rfl
    refine one_ (i := 31) (N := some 9) (ba 33 4294967295) rfl rfl (one_of HT_.out (by kernel_rfl)) (by decide) (fun K hK => ?_)
    refine value_ (w1 := ?_) (v := ?_) (by rfl) rfl ?_ ?_
    rotate_left 2
    ·go_simp
     constructor
     ·rfl
     ·rfl
    have hb289 := Aside0.mk ((Below.refl _ w284).alloc (Nat.le_refl _) (.cells #[.int .i64 0, .string ⟨#[]⟩, .string ⟨#[]⟩, .string ⟨#[]⟩, .int .i64 0, .int .i64 0, .int .i64 0, .slice none 0 0, .slice none 0 0, .string ⟨#[]⟩] 46))
    have HB290 := Aside0.mk (below_step HB286.out hb289.out)
    have X291 := Aside0.mk (heap_alloc_new w284 (.cells #[.int .i64 0, .string ⟨#[]⟩, .string ⟨#[]⟩, .string ⟨#[]⟩, .int .i64 0, .int .i64 0, .int .i64 0, .slice none 0 0, .slice none 0 0, .string ⟨#[]⟩] 46))
    have L293 := Aside0.mk ((hb289.out.cell (p := ⟨w0.heap.size, n2, none⟩) (block_lt_of_cell L287.out)).trans L287.out)
    have L294 := Aside0.mk ((hb289.out.cell (p := ⟨w240.heap.size, n1, none⟩) (block_lt_of_cell L288.out)).trans L288.out)
    generalize hW_ : w284.alloc (.cells #[.int .i64 0, .string ⟨#[]⟩, .string ⟨#[]⟩, .string ⟨#[]⟩, .int .i64 0, .int .i64 0, .int .i64 0, .slice none 0 0, .slice none 0 0, .string ⟨#[]⟩] 46) = w292 at *
    clear hW_
    have NE295 := Aside0.mk (Nat.ne_of_gt (block_lt_of_cell L287.out))
    have NE296 := Aside0.mk (Nat.ne_of_gt (block_lt_of_cell L288.out))
    have GX297 := Aside0.mk (HB286.out.size)
    refine hK.out _ _ (⟨HB290.out, L293.out, L294.out⟩) (fun _ => ?_)
    clear hK K
    refine norm_ (a' := ?_) ?_ ?_
    rotate_left
    ·show Act.put _ (some 9) _ = _
     simp only [pS, pN, sB, sZ, sS]
     rfl
    refine one_ (i := 32) (N := none) (ba 33 8589934591) rfl rfl (one_of HT_.out (by kernel_rfl)) (by decide) (fun K hK => ?_)
    rw [if_pos (by rfl)]
    refine wp_store_row 46 _ _ rfl (w284.heap.size) (vR a1 a3 t2 t3 t4 tx s1 s2) rfl rfl 46 #[.int .i64 0, .string ⟨#[]⟩, .string ⟨#[]⟩, .string ⟨#[]⟩, .int .i64 0, .int .i64 0, .int .i64 0, .slice none 0 0, .slice none 0 0, .string ⟨#[]⟩] X291.out size46 rfl (one46 _ _ _ _ _ _ _ _) ?_
    have HB298 := Aside0.mk (below_setRow HB290.out GX297.out (vR a1 a3 t2 t3 t4 tx s1 s2))
    have HF_ := Aside0.mk (setRow_heap _ _ _ (vR a1 a3 t2 t3 t4 tx s1 s2) _ _ X291.out)
    have L299 := Aside0.mk ((cell_setRow_other _ _ (vR a1 a3 t2 t3 t4 tx s1 s2) _ NE295.out.symm).trans L293.out)
    have L300 := Aside0.mk ((cell_setRow_other _ _ (vR a1 a3 t2 t3 t4 tx s1 s2) _ NE296.out.symm).trans L294.out)
    refine hK.out _ _ (⟨HB298.out, L299.out, L300.out⟩) (fun _ => ?_)
    clear hK K
    refine done_ (done_of HT_.out (by kernel_rfl)) ?_
    exact HQ.out _ _ _ _ _ _ _ _ _ _ _ _ _ _ _ _ _ _ _ _ _ _ _ _ _ _ _ _ _ _ _ (w284.heap.size) _ GX297.out HB298.out HF_.out
   ·skip
    refine value_ (w1 := ?_) (v := ?_) (by rfl) rfl ?_ ?_
    rotate_left 2
    ·go_simp
     constructor
     ·rfl
     ·rfl
    have hb301 := Aside0.mk ((Below.refl _ w282).alloc (Nat.le_refl _) (.cells #[.int .i64 0, .string ⟨#[]⟩, .string ⟨#[]⟩, .string ⟨#[]⟩, .int .i64 0, .int .i64 0, .int .i64 0, .slice none 0 0, .slice none 0 0, .string ⟨#[]⟩] 46))
    have HB302 := Aside0.mk (below_step HB280.out hb301.out)
    have X303 := Aside0.mk (heap_alloc_new w282 (.cells #[.int .i64 0, .string ⟨#[]⟩, .string ⟨#[]⟩, .string ⟨#[]⟩, .int .i64 0, .int .i64 0, .int .i64 0, .slice none 0 0, .slice none 0 0, .string ⟨#[]⟩] 46))
    have L305 := Aside0.mk ((hb301.out.cell (p := ⟨w0.heap.size, n2, none⟩) (block_lt_of_cell L283.out)).trans L283.out)
    have L306 := Aside0.mk ((hb301.out.cell (p := ⟨w240.heap.size, n1, none⟩) (block_lt_of_cell L281.out)).trans L281.out)
    generalize hW_ : w282.alloc (.cells #[.int .i64 0, .string ⟨#[]⟩, .string ⟨#[]⟩, .string ⟨#[]⟩, .int .i64 0, .int .i64 0, .int .i64 0, .slice none 0 0, .slice none 0 0, .string ⟨#[]⟩] 46) = w304 at *
    clear hW_
    have NE307 := Aside0.mk (Nat.ne_of_gt (block_lt_of_cell L283.out))
    have NE308 := Aside0.mk (Nat.ne_of_gt (block_lt_of_cell L281.out))
    have GX309 := Aside0.mk (HB280.out.size)
    refine hK.out _ _ (⟨HB302.out, L305.out, L306.out⟩) (fun _ => ?_)
    clear hK K
    refine norm_ (a' := ?_) ?_ ?_
    rotate_left
    ·show Act.put _ (some 9) _ = _
     simp only [pS, pN, sB, sZ, sS]
     rfl
    refine one_ (i := 3) (N := some 16) (ba 33 2487490671) rfl rfl (one_of HT_.out (by kernel_rfl)) (by decide) (fun K hK => ?_)
    refine goes_ Try.func35 (by kernel_rfl) rfl #[.int .i64 t0, .int .i64 19] (by rfl) rfl rfl (by (try simp only [List.map_toArray, List.map_cons, List.map_nil]); first | done | rfl) ?_
    with_reducible refine (roadsteadlaw10_text.calls k t0 19 tx _ HX.out).mono ?_
    rintro e w310 ⟨rfl, hb0_⟩
    refine ⟨_, rfl, ?_⟩
    have hb311 := Aside0.mk hb0_
    clear hb0_
    have HB312 := Aside0.mk (below_step HB302.out hb311.out)
    have L313 := Aside0.mk ((hb311.out.cell (p := ⟨w0.heap.size, n2, none⟩) (block_lt_of_cell L305.out)).trans L305.out)
    have L314 := Aside0.mk ((hb311.out.cell (p := ⟨w240.heap.size, n1, none⟩) (block_lt_of_cell L306.out)).trans L306.out)
    have X315 := Aside0.mk ((hb311.out.block _ (Array.getElem?_eq_some_iff.1 X303.out).1).trans X303.out)
    refine hK.out _ _ (⟨HB312.out, L313.out, L314.out⟩) (fun _ => ?_)
    clear hK K
    refine norm_ (a' := ?_) ?_ ?_
    rotate_left
    ·show Act.put _ (some 16) _ = _
     simp only [pS, pN, sB, sZ, sS]
     rfl
    refine pure_ (i := 4) (N := some 17) (v := ?_) (a' := ?_) (ba 33 2487490687) rfl rfl (any_of HT_.out (by kernel_rfl)) (fun _ _ _ h => hP _ _ _ _ _ h) (Or.inl ⟨by rfl, ?_⟩) ?_ ?_
    rotate_left
    ·intro w'; go_simp; with_reducible rfl
    rotate_left
    ·simp only [pS, pN, sB, sZ, sS, i64_w, i32_w]; rfl
    refine quiet_ (i := 7) (N := some 20) (a' := ?_) (ba 33 2487490815) rfl rfl (take_ofW HT_.out HW_.out (by kernel_rfl)) (fun _ _ _ h => hP _ _ _ _ _ h) (quiet_call Try.func22 (by kernel_rfl) rfl #[.slice A0 l0.length c0, .int .i64 1] (by rfl) rfl (by (try simp only [List.map_toArray, List.map_cons, List.map_nil]); first | done | rfl) (fun w' hS => g_quiet _ _ l0 1 t1 w' (Kd.C_below HR.out (hS.1)) HC.out H1.out)) (⟨HB312.out, L313.out, L314.out⟩) ?_ ?_
    rotate_left
    ·simp only [pS, pN, sB, sZ, sS, i64_w, i32_w]; rfl
    refine pure_ (i := 8) (N := some 21) (v := ?_) (a' := ?_) (ba 33 2487491071) rfl rfl (any_of HT_.out (by kernel_rfl)) (fun _ _ _ h => hP _ _ _ _ _ h) (Or.inl ⟨by rfl, ?_⟩) ?_ ?_
    rotate_left
    ·intro w'; go_simp; with_reducible rfl
    rotate_left
    ·simp only [pS, pN, sB, sZ, sS, i64_w, i32_w]; rfl
    refine pure_ (i := 9) (N := some 22) (v := ?_) (a' := ?_) (ba 33 2487491583) rfl rfl (any_of HT_.out (by kernel_rfl)) (fun _ _ _ h => hP _ _ _ _ _ h) (Or.inl ⟨by rfl, ?_⟩) ?_ ?_
    rotate_left
    ·intro w'; go_simp; with_reducible rfl
    rotate_left
    ·simp only [pS, pN, sB, sZ, sS, i64_w, i32_w]; rfl
    refine take_ (i := 10) (N := some 23) (v := ?_) (a' := ?_) (ba 33 2487492607) rfl rfl (take_ofW HT_.out HW_.out (by kernel_rfl)) (fun _ _ _ h => hP _ _ _ _ _ h) (Or.inl ⟨by rfl, ?_⟩) (⟨HB312.out, L313.out, L314.out⟩) ?_ ?_
    rotate_left
    ·intro w' hS
     have hl_ := hS.2.2
     go_simp
     with_reducible rfl
    rotate_left
    ·simp only [pS, pN, sB, sZ, sS, i64_w, i32_w]; rfl
    refine quiet_ (i := 13) (N := some 26) (a' := ?_) (ba 33 2487500799) rfl rfl (take_ofW HT_.out HW_.out (by kernel_rfl)) (fun _ _ _ h => hP _ _ _ _ _ h) (quiet_call Try.func22 (by kernel_rfl) rfl #[.slice A0 l0.length c0, .int .i64 1] (by rfl) rfl (by (try simp only [List.map_toArray, List.map_cons, List.map_nil]); first | done | rfl) (fun w' hS => g_quiet _ _ l0 1 t1 w' (Kd.C_below HR.out (hS.1)) HC.out H1.out)) (⟨HB312.out, L313.out, L314.out⟩) ?_ ?_
    rotate_left
    ·simp only [pS, pN, sB, sZ, sS, i64_w, i32_w]; rfl
    refine pure_ (i := 14) (N := some 27) (v := ?_) (a' := ?_) (ba 33 2487517183) rfl rfl (any_of HT_.out (by kernel_rfl)) (fun _ _ _ h => hP _ _ _ _ _ h) (Or.inl ⟨by rfl, ?_⟩) ?_ ?_
    rotate_left
    ·intro w'; go_simp; with_reducible rfl
    rotate_left
    ·simp only [pS, pN, sB, sZ, sS, i64_w, i32_w]; rfl
    refine pure_ (i := 15) (N := some 28) (v := ?_) (a' := ?_) (ba 33 2487549951) rfl rfl (any_of HT_.out (by kernel_rfl)) (fun _ _ _ h => hP _ _ _ _ _ h) (Or.inl ⟨by rfl, ?_⟩) ?_ ?_
    rotate_left
    ·intro w'; go_simp; with_reducible rfl
    rotate_left
    ·simp only [pS, pN, sB, sZ, sS, i64_w, i32_w]; rfl
    refine pure_ (i := 16) (N := some 29) (v := ?_) (a' := ?_) (ba 33 2487615487) rfl rfl (any_of HT_.out (by kernel_rfl)) (fun _ _ _ h => hP _ _ _ _ _ h) (Or.inl ⟨by rfl, ?_⟩) ?_ ?_
    rotate_left
    ·intro w'; go_simp; with_reducible rfl
    rotate_left
    ·simp only [pS, pN, sB, sZ, sS, i64_w, i32_w]; rfl
    refine take_ (i := 17) (N := some 30) (v := ?_) (a' := ?_) (ba 33 2487746559) rfl rfl (take_ofW HT_.out HW_.out (by kernel_rfl)) (fun _ _ _ h => hP _ _ _ _ _ h) (Or.inl ⟨by rfl, ?_⟩) (⟨HB312.out, L313.out, L314.out⟩) ?_ ?_
    rotate_left
    ·intro w' hS
     have hl_ := hS.2.1
     go_simp
     with_reducible rfl
    rotate_left
    ·simp only [pS, pN, sB, sZ, sS, i64_w, i32_w]; rfl
    refine quiet_ (i := 19) (N := some 32) (a' := ?_) (ba 33 2488270847) rfl rfl (take_ofW HT_.out HW_.out (by kernel_rfl)) (fun _ _ _ h => hP _ _ _ _ _ h) (quiet_call Try.func22 (by kernel_rfl) rfl #[.slice A0 l0.length c0, .int .i64 2] (by rfl) rfl (by (try simp only [List.map_toArray, List.map_cons, List.map_nil]); first | done | rfl) (fun w' hS => g_quiet _ _ l0 2 t2 w' (Kd.C_below HR.out (hS.1)) HC.out H2.out)) (⟨HB312.out, L313.out, L314.out⟩) ?_ ?_
    rotate_left
    ·simp only [pS, pN, sB, sZ, sS, i64_w, i32_w]; rfl
    refine pure_ (i := 20) (N := some 33) (v := ?_) (a' := ?_) (ba 33 2489319423) rfl rfl (any_of HT_.out (by kernel_rfl)) (fun _ _ _ h => hP _ _ _ _ _ h) (Or.inl ⟨by rfl, ?_⟩) ?_ ?_
    rotate_left
    ·intro w'; go_simp; with_reducible rfl
    rotate_left
    ·simp only [pS, pN, sB, sZ, sS, i64_w, i32_w]; rfl
    refine pure_ (i := 21) (N := some 34) (v := ?_) (a' := ?_) (ba 33 2491416575) rfl rfl (any_of HT_.out (by kernel_rfl)) (fun _ _ _ h => hP _ _ _ _ _ h) (Or.inl ⟨by rfl, ?_⟩) ?_ ?_
    rotate_left
    ·intro w'; go_simp; with_reducible rfl
    rotate_left
    ·simp only [pS, pN, sB, sZ, sS, i64_w, i32_w]; rfl
    refine quiet_ (i := 23) (N := some 36) (a' := ?_) (ba 33 2499805183) rfl rfl (take_ofW HT_.out HW_.out (by kernel_rfl)) (fun _ _ _ h => hP _ _ _ _ _ h) (quiet_call Try.func22 (by kernel_rfl) rfl #[.slice A0 l0.length c0, .int .i64 3] (by rfl) rfl (by (try simp only [List.map_toArray, List.map_cons, List.map_nil]); first | done | rfl) (fun w' hS => g_quiet _ _ l0 3 t3 w' (Kd.C_below HR.out (hS.1)) HC.out H3.out)) (⟨HB312.out, L313.out, L314.out⟩) ?_ ?_
    rotate_left
    ·simp only [pS, pN, sB, sZ, sS, i64_w, i32_w]; rfl
    refine pure_ (i := 24) (N := some 37) (v := ?_) (a' := ?_) (ba 33 2516582399) rfl rfl (any_of HT_.out (by kernel_rfl)) (fun _ _ _ h => hP _ _ _ _ _ h) (Or.inl ⟨by rfl, ?_⟩) ?_ ?_
    rotate_left
    ·intro w'; go_simp; with_reducible rfl
    rotate_left
    ·simp only [pS, pN, sB, sZ, sS, i64_w, i32_w]; rfl
    refine pure_ (i := 25) (N := some 38) (v := ?_) (a' := ?_) (ba 33 2550136831) rfl rfl (any_of HT_.out (by kernel_rfl)) (fun _ _ _ h => hP _ _ _ _ _ h) (Or.inl ⟨by rfl, ?_⟩) ?_ ?_
    rotate_left
    ·intro w'; go_simp; with_reducible rfl
    rotate_left
    ·simp only [pS, pN, sB, sZ, sS, i64_w, i32_w]; rfl
    refine quiet_ (i := 27) (N := some 40) (a' := ?_) (ba 33 2684354559) rfl rfl (take_ofW HT_.out HW_.out (by kernel_rfl)) (fun _ _ _ h => hP _ _ _ _ _ h) (quiet_call Try.func22 (by kernel_rfl) rfl #[.slice A0 l0.length c0, .int .i64 4] (by rfl) rfl (by (try simp only [List.map_toArray, List.map_cons, List.map_nil]); first | done | rfl) (fun w' hS => g_quiet _ _ l0 4 t4 w' (Kd.C_below HR.out (hS.1)) HC.out H4.out)) (⟨HB312.out, L313.out, L314.out⟩) ?_ ?_
    rotate_left
    ·simp only [pS, pN, sB, sZ, sS, i64_w, i32_w]; rfl
    refine pure_ (i := 29) (N := some 42) (v := ?_) (a' := ?_) (ba 33 3221225471) rfl rfl (any_of HT_.out (by kernel_rfl)) (fun _ _ _ h => hP _ _ _ _ _ h) (Or.inl ⟨by rfl, ?_⟩) ?_ ?_
    rotate_left
    ·intro w'; go_simp; with_reducible rfl
    rotate_left
    ·simp only [pS, pN, sB, sZ, sS, i64_w, i32_w]; rfl
    refine pure_ (i := 30) (N := some 43) (v := ?_) (a' := ?_) (ba 33 4294967295) rfl rfl (any_of HT_.out (by kernel_rfl)) (fun _ _ _ h => hP _ _ _ _ _ h) (Or.inl ⟨by rfl, ?_⟩) ?_ ?_
    rotate_left
    ·intro w'; go_simp; with_reducible rfl
    rotate_left
    ·simp only [pS, pN, sB, sZ, sS, i64_w, i32_w]; rfl
    refine one_ (i := 32) (N := none) (ba 33 8589934591) rfl rfl (one_of HT_.out (by kernel_rfl)) (by decide) (fun K hK => ?_)
    rw [if_pos (by rfl)]
    refine wp_store_row 46 _ _ rfl (w282.heap.size) (vR a1 a3 t2 t3 t4 tx s1 s2) rfl rfl 46 #[.int .i64 0, .string ⟨#[]⟩, .string ⟨#[]⟩, .string ⟨#[]⟩, .int .i64 0, .int .i64 0, .int .i64 0, .slice none 0 0, .slice none 0 0, .string ⟨#[]⟩] X315.out size46 rfl (one46 _ _ _ _ _ _ _ _) ?_
    have HB316 := Aside0.mk (below_setRow HB312.out GX309.out (vR a1 a3 t2 t3 t4 tx s1 s2))
    have HF_ := Aside0.mk (setRow_heap _ _ _ (vR a1 a3 t2 t3 t4 tx s1 s2) _ _ X315.out)
    have L317 := Aside0.mk ((cell_setRow_other _ _ (vR a1 a3 t2 t3 t4 tx s1 s2) _ NE307.out.symm).trans L313.out)
    have L318 := Aside0.mk ((cell_setRow_other _ _ (vR a1 a3 t2 t3 t4 tx s1 s2) _ NE308.out.symm).trans L314.out)
    refine hK.out _ _ (⟨HB316.out, L317.out, L318.out⟩) (fun _ => ?_)
    clear hK K
    refine done_ (done_of HT_.out (by kernel_rfl)) ?_
    exact HQ.out _ _ _ _ _ _ _ _ _ _ _ _ _ _ _ _ _ _ _ _ _ _ _ _ _ _ _ _ _ _ _ (w282.heap.size) _ GX309.out HB316.out HF_.out
  ·skip
   refine value_ (w1 := ?_) (v := ?_) (by rfl) rfl ?_ ?_
   rotate_left 2
   ·go_simp
    constructor
    ·rfl
    ·rfl
   have hb319 := Aside0.mk ((Below.refl _ w240).alloc (Nat.le_refl _) (.cells #[.int .i64 0, .string ⟨#[]⟩, .string ⟨#[]⟩, .string ⟨#[]⟩, .int .i64 0, .int .i64 0, .int .i64 0, .slice none 0 0, .slice none 0 0, .string ⟨#[]⟩] 46))
   have HB320 := Aside0.mk (below_step HB238.out hb319.out)
   have X321 := Aside0.mk (heap_alloc_new w240 (.cells #[.int .i64 0, .string ⟨#[]⟩, .string ⟨#[]⟩, .string ⟨#[]⟩, .int .i64 0, .int .i64 0, .int .i64 0, .slice none 0 0, .slice none 0 0, .string ⟨#[]⟩] 46))
   have L323 := Aside0.mk ((hb319.out.cell (p := ⟨w0.heap.size, n2, none⟩) (block_lt_of_cell L239.out)).trans L239.out)
   generalize hW_ : w240.alloc (.cells #[.int .i64 0, .string ⟨#[]⟩, .string ⟨#[]⟩, .string ⟨#[]⟩, .int .i64 0, .int .i64 0, .int .i64 0, .slice none 0 0, .slice none 0 0, .string ⟨#[]⟩] 46) = w322 at *
   clear hW_
   have NE324 := Aside0.mk (Nat.ne_of_gt (block_lt_of_cell L239.out))
   have GX325 := Aside0.mk (HB238.out.size)
   refine hK.out _ _ (⟨HB320.out, L323.out⟩) (fun _ => ?_)
   clear hK K
   refine norm_ (a' := ?_) ?_ ?_
   rotate_left
   ·show Act.put _ (some 9) _ = _
    simp only [pS, pN, sB, sZ, sS]
    rfl
   refine two_ (i := 3) (j := 5) (Ni := some 16) (Nj := some 18) (ba 33 2487490639) (ba 33 2487490663) rfl rfl rfl rfl (two_of HT_.out (by kernel_rfl)) (by decide) (by decide) (fun K hK => ?_) (fun K hK => ?_)
   ·skip
    refine goes_ Try.func35 (by kernel_rfl) rfl #[.int .i64 t0, .int .i64 19] (by rfl) rfl rfl (by (try simp only [List.map_toArray, List.map_cons, List.map_nil]); first | done | rfl) ?_
    with_reducible refine (roadsteadlaw10_text.calls k t0 19 tx _ HX.out).mono ?_
    rintro e w326 ⟨rfl, hb0_⟩
    refine ⟨_, rfl, ?_⟩
    have hb327 := Aside0.mk hb0_
    clear hb0_
    have HB328 := Aside0.mk (below_step HB320.out hb327.out)
    have L329 := Aside0.mk ((hb327.out.cell (p := ⟨w0.heap.size, n2, none⟩) (block_lt_of_cell L323.out)).trans L323.out)
    have X330 := Aside0.mk ((hb327.out.block _ (Array.getElem?_eq_some_iff.1 X321.out).1).trans X321.out)
    refine hK.out _ _ (⟨HB328.out, L329.out⟩) (fun _ => ?_)
    clear hK K
    refine norm_ (a' := ?_) ?_ ?_
    rotate_left
    ·show Act.put _ (some 16) _ = _
     simp only [pS, pN, sB, sZ, sS]
     rfl
    refine pure_ (i := 4) (N := some 17) (v := ?_) (a' := ?_) (ba 33 2487490655) rfl rfl (any_of HT_.out (by kernel_rfl)) (fun _ _ _ h => hP _ _ _ _ _ h) (Or.inl ⟨by rfl, ?_⟩) ?_ ?_
    rotate_left
    ·intro w'; go_simp; with_reducible rfl
    rotate_left
    ·simp only [pS, pN, sB, sZ, sS, i64_w, i32_w]; rfl
    refine quiet_ (i := 7) (N := some 20) (a' := ?_) (ba 33 2487490783) rfl rfl (take_ofW HT_.out HW_.out (by kernel_rfl)) (fun _ _ _ h => hP _ _ _ _ _ h) (quiet_call Try.func22 (by kernel_rfl) rfl #[.slice A0 l0.length c0, .int .i64 1] (by rfl) rfl (by (try simp only [List.map_toArray, List.map_cons, List.map_nil]); first | done | rfl) (fun w' hS => g_quiet _ _ l0 1 t1 w' (Kd.C_below HR.out (hS.1)) HC.out H1.out)) (⟨HB328.out, L329.out⟩) ?_ ?_
    rotate_left
    ·simp only [pS, pN, sB, sZ, sS, i64_w, i32_w]; rfl
    refine pure_ (i := 8) (N := some 21) (v := ?_) (a' := ?_) (ba 33 2487491039) rfl rfl (any_of HT_.out (by kernel_rfl)) (fun _ _ _ h => hP _ _ _ _ _ h) (Or.inl ⟨by rfl, ?_⟩) ?_ ?_
    rotate_left
    ·intro w'; go_simp; with_reducible rfl
    rotate_left
    ·simp only [pS, pN, sB, sZ, sS, i64_w, i32_w]; rfl
    refine quiet_ (i := 13) (N := some 26) (a' := ?_) (ba 33 2487499231) rfl rfl (take_ofW HT_.out HW_.out (by kernel_rfl)) (fun _ _ _ h => hP _ _ _ _ _ h) (quiet_call Try.func22 (by kernel_rfl) rfl #[.slice A0 l0.length c0, .int .i64 1] (by rfl) rfl (by (try simp only [List.map_toArray, List.map_cons, List.map_nil]); first | done | rfl) (fun w' hS => g_quiet _ _ l0 1 t1 w' (Kd.C_below HR.out (hS.1)) HC.out H1.out)) (⟨HB328.out, L329.out⟩) ?_ ?_
    rotate_left
    ·simp only [pS, pN, sB, sZ, sS, i64_w, i32_w]; rfl
    refine pure_ (i := 14) (N := some 27) (v := ?_) (a' := ?_) (ba 33 2487515615) rfl rfl (any_of HT_.out (by kernel_rfl)) (fun _ _ _ h => hP _ _ _ _ _ h) (Or.inl ⟨by rfl, ?_⟩) ?_ ?_
    rotate_left
    ·intro w'; go_simp; with_reducible rfl
    rotate_left
    ·simp only [pS, pN, sB, sZ, sS, i64_w, i32_w]; rfl
    refine pure_ (i := 15) (N := some 28) (v := ?_) (a' := ?_) (ba 33 2487548383) rfl rfl (any_of HT_.out (by kernel_rfl)) (fun _ _ _ h => hP _ _ _ _ _ h) (Or.inl ⟨by rfl, ?_⟩) ?_ ?_
    rotate_left
    ·intro w'; go_simp; with_reducible rfl
    rotate_left
    ·simp only [pS, pN, sB, sZ, sS, i64_w, i32_w]; rfl
    refine pure_ (i := 16) (N := some 29) (v := ?_) (a' := ?_) (ba 33 2487613919) rfl rfl (any_of HT_.out (by kernel_rfl)) (fun _ _ _ h => hP _ _ _ _ _ h) (Or.inl ⟨by rfl, ?_⟩) ?_ ?_
    rotate_left
    ·intro w'; go_simp; with_reducible rfl
    rotate_left
    ·simp only [pS, pN, sB, sZ, sS, i64_w, i32_w]; rfl
    refine take_ (i := 17) (N := some 30) (v := ?_) (a' := ?_) (ba 33 2487744991) rfl rfl (take_ofW HT_.out HW_.out (by kernel_rfl)) (fun _ _ _ h => hP _ _ _ _ _ h) (Or.inl ⟨by rfl, ?_⟩) (⟨HB328.out, L329.out⟩) ?_ ?_
    rotate_left
    ·intro w' hS
     have hl_ := hS.2
     go_simp
     with_reducible rfl
    rotate_left
    ·simp only [pS, pN, sB, sZ, sS, i64_w, i32_w]; rfl
    refine quiet_ (i := 19) (N := some 32) (a' := ?_) (ba 33 2488269279) rfl rfl (take_ofW HT_.out HW_.out (by kernel_rfl)) (fun _ _ _ h => hP _ _ _ _ _ h) (quiet_call Try.func22 (by kernel_rfl) rfl #[.slice A0 l0.length c0, .int .i64 2] (by rfl) rfl (by (try simp only [List.map_toArray, List.map_cons, List.map_nil]); first | done | rfl) (fun w' hS => g_quiet _ _ l0 2 t2 w' (Kd.C_below HR.out (hS.1)) HC.out H2.out)) (⟨HB328.out, L329.out⟩) ?_ ?_
    rotate_left
    ·simp only [pS, pN, sB, sZ, sS, i64_w, i32_w]; rfl
    refine pure_ (i := 20) (N := some 33) (v := ?_) (a' := ?_) (ba 33 2489317855) rfl rfl (any_of HT_.out (by kernel_rfl)) (fun _ _ _ h => hP _ _ _ _ _ h) (Or.inl ⟨by rfl, ?_⟩) ?_ ?_
    rotate_left
    ·intro w'; go_simp; with_reducible rfl
    rotate_left
    ·simp only [pS, pN, sB, sZ, sS, i64_w, i32_w]; rfl
    refine pure_ (i := 21) (N := some 34) (v := ?_) (a' := ?_) (ba 33 2491415007) rfl rfl (any_of HT_.out (by kernel_rfl)) (fun _ _ _ h => hP _ _ _ _ _ h) (Or.inl ⟨by rfl, ?_⟩) ?_ ?_
    rotate_left
    ·intro w'; go_simp; with_reducible rfl
    rotate_left
    ·simp only [pS, pN, sB, sZ, sS, i64_w, i32_w]; rfl
    refine quiet_ (i := 23) (N := some 36) (a' := ?_) (ba 33 2499803615) rfl rfl (take_ofW HT_.out HW_.out (by kernel_rfl)) (fun _ _ _ h => hP _ _ _ _ _ h) (quiet_call Try.func22 (by kernel_rfl) rfl #[.slice A0 l0.length c0, .int .i64 3] (by rfl) rfl (by (try simp only [List.map_toArray, List.map_cons, List.map_nil]); first | done | rfl) (fun w' hS => g_quiet _ _ l0 3 t3 w' (Kd.C_below HR.out (hS.1)) HC.out H3.out)) (⟨HB328.out, L329.out⟩) ?_ ?_
    rotate_left
    ·simp only [pS, pN, sB, sZ, sS, i64_w, i32_w]; rfl
    refine pure_ (i := 24) (N := some 37) (v := ?_) (a' := ?_) (ba 33 2516580831) rfl rfl (any_of HT_.out (by kernel_rfl)) (fun _ _ _ h => hP _ _ _ _ _ h) (Or.inl ⟨by rfl, ?_⟩) ?_ ?_
    rotate_left
    ·intro w'; go_simp; with_reducible rfl
    rotate_left
    ·simp only [pS, pN, sB, sZ, sS, i64_w, i32_w]; rfl
    refine pure_ (i := 25) (N := some 38) (v := ?_) (a' := ?_) (ba 33 2550135263) rfl rfl (any_of HT_.out (by kernel_rfl)) (fun _ _ _ h => hP _ _ _ _ _ h) (Or.inl ⟨by rfl, ?_⟩) ?_ ?_
    rotate_left
    ·intro w'; go_simp; with_reducible rfl
    rotate_left
    ·simp only [pS, pN, sB, sZ, sS, i64_w, i32_w]; rfl
    refine quiet_ (i := 27) (N := some 40) (a' := ?_) (ba 33 2684352991) rfl rfl (take_ofW HT_.out HW_.out (by kernel_rfl)) (fun _ _ _ h => hP _ _ _ _ _ h) (quiet_call Try.func22 (by kernel_rfl) rfl #[.slice A0 l0.length c0, .int .i64 4] (by rfl) rfl (by (try simp only [List.map_toArray, List.map_cons, List.map_nil]); first | done | rfl) (fun w' hS => g_quiet _ _ l0 4 t4 w' (Kd.C_below HR.out (hS.1)) HC.out H4.out)) (⟨HB328.out, L329.out⟩) ?_ ?_
    rotate_left
    ·simp only [pS, pN, sB, sZ, sS, i64_w, i32_w]; rfl
    refine pure_ (i := 29) (N := some 42) (v := ?_) (a' := ?_) (ba 33 3221223903) rfl rfl (any_of HT_.out (by kernel_rfl)) (fun _ _ _ h => hP _ _ _ _ _ h) (Or.inl ⟨by rfl, ?_⟩) ?_ ?_
    rotate_left
    ·intro w'; go_simp; with_reducible rfl
    rotate_left
    ·simp only [pS, pN, sB, sZ, sS, i64_w, i32_w]; rfl
    refine one_ (i := 5) (N := some 18) (ba 33 3221223935) rfl rfl (one_of HT_.out (by kernel_rfl)) (by decide) (fun K hK => ?_)
    refine value_ (w1 := ?_) (v := ?_) (by rfl) rfl ?_ ?_
    rotate_left 2
    ·go_simp
     constructor
     ·rfl
     ·rfl
    have hb331 := Aside0.mk ((Below.refl _ w326).alloc (Nat.le_refl _) (.cells #[.string (⟨#[35]⟩ : ByteArray), .string (⟨#[97]⟩ : ByteArray), .string (⟨#[97, 47, 43]⟩ : ByteArray), .string (⟨#[98, 47, 35]⟩ : ByteArray)] 9))
    have HB332 := Aside0.mk (below_step HB328.out hb331.out)
    have L333 := Aside0.mk (HLA.out w326)
    have L335 := Aside0.mk ((hb331.out.cell (p := ⟨w0.heap.size, n2, none⟩) (block_lt_of_cell L329.out)).trans L329.out)
    have X336 := Aside0.mk ((hb331.out.block _ (Array.getElem?_eq_some_iff.1 X330.out).1).trans X330.out)
    generalize hW_ : w326.alloc (.cells #[.string (⟨#[35]⟩ : ByteArray), .string (⟨#[97]⟩ : ByteArray), .string (⟨#[97, 47, 43]⟩ : ByteArray), .string (⟨#[98, 47, 35]⟩ : ByteArray)] 9) = w334 at *
    clear hW_
    have NE337 := Aside0.mk (Nat.ne_of_lt (Array.getElem?_eq_some_iff.1 X330.out).1)
    refine hK.out _ _ (⟨HB332.out, L335.out⟩) (fun _ => ?_)
    clear hK K
    refine norm_ (a' := ?_) ?_ ?_
    rotate_left
    ·show Act.put _ (some 18) _ = _
     simp only [pS, pN, sB, sZ, sS]
     rfl
    refine restart_ (S2 := fun w' => Below w.heap.size w w' ∧ w'.cell? ⟨w0.heap.size, n2, none⟩ = some (.string s2) ∧ w'.cell? ⟨w326.heap.size, n1, none⟩ = some (.string s1)) (fun w' h => ⟨h.1, h.2.1⟩) (⟨HB332.out, L335.out, L333.out⟩) ?_
    refine pure_ (i := 9) (N := some 22) (v := ?_) (a' := ?_) (ba 33 3221224447) rfl rfl (any_of HT_.out (by kernel_rfl)) (fun _ _ _ h => hP _ _ _ _ _ h) (Or.inl ⟨by rfl, ?_⟩) ?_ ?_
    rotate_left
    ·intro w'; go_simp; with_reducible rfl
    rotate_left
    ·simp only [pS, pN, sB, sZ, sS, i64_w, i32_w]; rfl
    refine take_ (i := 10) (N := some 23) (v := ?_) (a' := ?_) (ba 33 3221225471) rfl rfl (take_ofW HT_.out HW_.out (by kernel_rfl)) (fun _ _ _ h => hP _ _ _ _ _ h) (Or.inl ⟨by rfl, ?_⟩) (⟨HB332.out, L335.out, L333.out⟩) ?_ ?_
    rotate_left
    ·intro w' hS
     have hl_ := hS.2.2
     go_simp
     with_reducible rfl
    rotate_left
    ·simp only [pS, pN, sB, sZ, sS, i64_w, i32_w]; rfl
    refine pure_ (i := 30) (N := some 43) (v := ?_) (a' := ?_) (ba 33 4294967295) rfl rfl (any_of HT_.out (by kernel_rfl)) (fun _ _ _ h => hP _ _ _ _ _ h) (Or.inl ⟨by rfl, ?_⟩) ?_ ?_
    rotate_left
    ·intro w'; go_simp; with_reducible rfl
    rotate_left
    ·simp only [pS, pN, sB, sZ, sS, i64_w, i32_w]; rfl
    refine one_ (i := 32) (N := none) (ba 33 8589934591) rfl rfl (one_of HT_.out (by kernel_rfl)) (by decide) (fun K hK => ?_)
    rw [if_pos (by rfl)]
    refine wp_store_row 46 _ _ rfl (w240.heap.size) (vR a1 a3 t2 t3 t4 tx s1 s2) rfl rfl 46 #[.int .i64 0, .string ⟨#[]⟩, .string ⟨#[]⟩, .string ⟨#[]⟩, .int .i64 0, .int .i64 0, .int .i64 0, .slice none 0 0, .slice none 0 0, .string ⟨#[]⟩] X336.out size46 rfl (one46 _ _ _ _ _ _ _ _) ?_
    have HB338 := Aside0.mk (below_setRow HB332.out GX325.out (vR a1 a3 t2 t3 t4 tx s1 s2))
    have HF_ := Aside0.mk (setRow_heap _ _ _ (vR a1 a3 t2 t3 t4 tx s1 s2) _ _ X336.out)
    have L339 := Aside0.mk ((cell_setRow_other _ _ (vR a1 a3 t2 t3 t4 tx s1 s2) _ NE324.out.symm).trans L335.out)
    have L340 := Aside0.mk ((cell_setRow_other _ _ (vR a1 a3 t2 t3 t4 tx s1 s2) _ NE337.out.symm).trans L333.out)
    refine hK.out _ _ (⟨HB338.out, L339.out, L340.out⟩) (fun _ => ?_)
    clear hK K
    refine done_ (done_of HT_.out (by kernel_rfl)) ?_
    exact HQ.out _ _ _ _ _ _ _ _ _ _ _ _ _ _ _ _ _ _ _ _ _ _ _ _ _ _ _ _ _ _ _ (w240.heap.size) _ GX325.out HB338.out HF_.out
   ·skip
    refine value_ (w1 := ?_) (v := ?_) (by rfl) rfl ?_ ?_
    rotate_left 2
    ·go_simp
     constructor
     ·rfl
     ·rfl
    have hb341 := Aside0.mk ((Below.refl _ w322).alloc (Nat.le_refl _) (.cells #[.string (⟨#[35]⟩ : ByteArray), .string (⟨#[97]⟩ : ByteArray), .string (⟨#[97, 47, 43]⟩ : ByteArray), .string (⟨#[98, 47, 35]⟩ : ByteArray)] 9))
    have HB342 := Aside0.mk (below_step HB320.out hb341.out)
    have L343 := Aside0.mk (HLA.out w322)
    have L345 := Aside0.mk ((hb341.out.cell (p := ⟨w0.heap.size, n2, none⟩) (block_lt_of_cell L323.out)).trans L323.out)
    have X346 := Aside0.mk ((hb341.out.block _ (Array.getElem?_eq_some_iff.1 X321.out).1).trans X321.out)
    generalize hW_ : w322.alloc (.cells #[.string (⟨#[35]⟩ : ByteArray), .string (⟨#[97]⟩ : ByteArray), .string (⟨#[97, 47, 43]⟩ : ByteArray), .string (⟨#[98, 47, 35]⟩ : ByteArray)] 9) = w344 at *
    clear hW_
    have NE347 := Aside0.mk (Nat.ne_of_lt (Array.getElem?_eq_some_iff.1 X321.out).1)
    refine hK.out _ _ (⟨HB342.out, L345.out⟩) (fun _ => ?_)
    clear hK K
    refine norm_ (a' := ?_) ?_ ?_
    rotate_left
    ·show Act.put _ (some 18) _ = _
     simp only [pS, pN, sB, sZ, sS]
     rfl
    refine restart_ (S2 := fun w' => Below w.heap.size w w' ∧ w'.cell? ⟨w0.heap.size, n2, none⟩ = some (.string s2) ∧ w'.cell? ⟨w322.heap.size, n1, none⟩ = some (.string s1)) (fun w' h => ⟨h.1, h.2.1⟩) (⟨HB342.out, L345.out, L343.out⟩) ?_
    refine one_ (i := 3) (N := some 16) (ba 33 2487490671) rfl rfl (one_of HT_.out (by kernel_rfl)) (by decide) (fun K hK => ?_)
    refine goes_ Try.func35 (by kernel_rfl) rfl #[.int .i64 t0, .int .i64 19] (by rfl) rfl rfl (by (try simp only [List.map_toArray, List.map_cons, List.map_nil]); first | done | rfl) ?_
    with_reducible refine (roadsteadlaw10_text.calls k t0 19 tx _ HX.out).mono ?_
    rintro e w348 ⟨rfl, hb0_⟩
    refine ⟨_, rfl, ?_⟩
    have hb349 := Aside0.mk hb0_
    clear hb0_
    have HB350 := Aside0.mk (below_step HB342.out hb349.out)
    have L351 := Aside0.mk ((hb349.out.cell (p := ⟨w0.heap.size, n2, none⟩) (block_lt_of_cell L345.out)).trans L345.out)
    have L352 := Aside0.mk ((hb349.out.cell (p := ⟨w322.heap.size, n1, none⟩) (block_lt_of_cell L343.out)).trans L343.out)
    have X353 := Aside0.mk ((hb349.out.block _ (Array.getElem?_eq_some_iff.1 X346.out).1).trans X346.out)
    refine hK.out _ _ (⟨HB350.out, L351.out, L352.out⟩) (fun _ => ?_)
    clear hK K
    refine norm_ (a' := ?_) ?_ ?_
    rotate_left
    ·show Act.put _ (some 16) _ = _
     simp only [pS, pN, sB, sZ, sS]
     rfl
    refine pure_ (i := 4) (N := some 17) (v := ?_) (a' := ?_) (ba 33 2487490687) rfl rfl (any_of HT_.out (by kernel_rfl)) (fun _ _ _ h => hP _ _ _ _ _ h) (Or.inl ⟨by rfl, ?_⟩) ?_ ?_
    rotate_left
    ·intro w'; go_simp; with_reducible rfl
    rotate_left
    ·simp only [pS, pN, sB, sZ, sS, i64_w, i32_w]; rfl
    refine quiet_ (i := 7) (N := some 20) (a' := ?_) (ba 33 2487490815) rfl rfl (take_ofW HT_.out HW_.out (by kernel_rfl)) (fun _ _ _ h => hP _ _ _ _ _ h) (quiet_call Try.func22 (by kernel_rfl) rfl #[.slice A0 l0.length c0, .int .i64 1] (by rfl) rfl (by (try simp only [List.map_toArray, List.map_cons, List.map_nil]); first | done | rfl) (fun w' hS => g_quiet _ _ l0 1 t1 w' (Kd.C_below HR.out (hS.1)) HC.out H1.out)) (⟨HB350.out, L351.out, L352.out⟩) ?_ ?_
    rotate_left
    ·simp only [pS, pN, sB, sZ, sS, i64_w, i32_w]; rfl
    refine pure_ (i := 8) (N := some 21) (v := ?_) (a' := ?_) (ba 33 2487491071) rfl rfl (any_of HT_.out (by kernel_rfl)) (fun _ _ _ h => hP _ _ _ _ _ h) (Or.inl ⟨by rfl, ?_⟩) ?_ ?_
    rotate_left
    ·intro w'; go_simp; with_reducible rfl
    rotate_left
    ·simp only [pS, pN, sB, sZ, sS, i64_w, i32_w]; rfl
    refine pure_ (i := 9) (N := some 22) (v := ?_) (a' := ?_) (ba 33 2487491583) rfl rfl (any_of HT_.out (by kernel_rfl)) (fun _ _ _ h => hP _ _ _ _ _ h) (Or.inl ⟨by rfl, ?_⟩) ?_ ?_
    rotate_left
    ·intro w'; go_simp; with_reducible rfl
    rotate_left
    ·simp only [pS, pN, sB, sZ, sS, i64_w, i32_w]; rfl
    refine take_ (i := 10) (N := some 23) (v := ?_) (a' := ?_) (ba 33 2487492607) rfl rfl (take_ofW HT_.out HW_.out (by kernel_rfl)) (fun _ _ _ h => hP _ _ _ _ _ h) (Or.inl ⟨by rfl, ?_⟩) (⟨HB350.out, L351.out, L352.out⟩) ?_ ?_
    rotate_left
    ·intro w' hS
     have hl_ := hS.2.2
     go_simp
     with_reducible rfl
    rotate_left
    ·simp only [pS, pN, sB, sZ, sS, i64_w, i32_w]; rfl
    refine quiet_ (i := 13) (N := some 26) (a' := ?_) (ba 33 2487500799) rfl rfl (take_ofW HT_.out HW_.out (by kernel_rfl)) (fun _ _ _ h => hP _ _ _ _ _ h) (quiet_call Try.func22 (by kernel_rfl) rfl #[.slice A0 l0.length c0, .int .i64 1] (by rfl) rfl (by (try simp only [List.map_toArray, List.map_cons, List.map_nil]); first | done | rfl) (fun w' hS => g_quiet _ _ l0 1 t1 w' (Kd.C_below HR.out (hS.1)) HC.out H1.out)) (⟨HB350.out, L351.out, L352.out⟩) ?_ ?_
    rotate_left
    ·simp only [pS, pN, sB, sZ, sS, i64_w, i32_w]; rfl
    refine pure_ (i := 14) (N := some 27) (v := ?_) (a' := ?_) (ba 33 2487517183) rfl rfl (any_of HT_.out (by kernel_rfl)) (fun _ _ _ h => hP _ _ _ _ _ h) (Or.inl ⟨by rfl, ?_⟩) ?_ ?_
    rotate_left
    ·intro w'; go_simp; with_reducible rfl
    rotate_left
    ·simp only [pS, pN, sB, sZ, sS, i64_w, i32_w]; rfl
    refine pure_ (i := 15) (N := some 28) (v := ?_) (a' := ?_) (ba 33 2487549951) rfl rfl (any_of HT_.out (by kernel_rfl)) (fun _ _ _ h => hP _ _ _ _ _ h) (Or.inl ⟨by rfl, ?_⟩) ?_ ?_
    rotate_left
    ·intro w'; go_simp; with_reducible rfl
    rotate_left
    ·simp only [pS, pN, sB, sZ, sS, i64_w, i32_w]; rfl
    refine pure_ (i := 16) (N := some 29) (v := ?_) (a' := ?_) (ba 33 2487615487) rfl rfl (any_of HT_.out (by kernel_rfl)) (fun _ _ _ h => hP _ _ _ _ _ h) (Or.inl ⟨by rfl, ?_⟩) ?_ ?_
    rotate_left
    ·intro w'; go_simp; with_reducible rfl
    rotate_left
    ·simp only [pS, pN, sB, sZ, sS, i64_w, i32_w]; rfl
    refine take_ (i := 17) (N := some 30) (v := ?_) (a' := ?_) (ba 33 2487746559) rfl rfl (take_ofW HT_.out HW_.out (by kernel_rfl)) (fun _ _ _ h => hP _ _ _ _ _ h) (Or.inl ⟨by rfl, ?_⟩) (⟨HB350.out, L351.out, L352.out⟩) ?_ ?_
    rotate_left
    ·intro w' hS
     have hl_ := hS.2.1
     go_simp
     with_reducible rfl
    rotate_left
    ·simp only [pS, pN, sB, sZ, sS, i64_w, i32_w]; rfl
    refine quiet_ (i := 19) (N := some 32) (a' := ?_) (ba 33 2488270847) rfl rfl (take_ofW HT_.out HW_.out (by kernel_rfl)) (fun _ _ _ h => hP _ _ _ _ _ h) (quiet_call Try.func22 (by kernel_rfl) rfl #[.slice A0 l0.length c0, .int .i64 2] (by rfl) rfl (by (try simp only [List.map_toArray, List.map_cons, List.map_nil]); first | done | rfl) (fun w' hS => g_quiet _ _ l0 2 t2 w' (Kd.C_below HR.out (hS.1)) HC.out H2.out)) (⟨HB350.out, L351.out, L352.out⟩) ?_ ?_
    rotate_left
    ·simp only [pS, pN, sB, sZ, sS, i64_w, i32_w]; rfl
    refine pure_ (i := 20) (N := some 33) (v := ?_) (a' := ?_) (ba 33 2489319423) rfl rfl (any_of HT_.out (by kernel_rfl)) (fun _ _ _ h => hP _ _ _ _ _ h) (Or.inl ⟨by rfl, ?_⟩) ?_ ?_
    rotate_left
    ·intro w'; go_simp; with_reducible rfl
    rotate_left
    ·simp only [pS, pN, sB, sZ, sS, i64_w, i32_w]; rfl
    refine pure_ (i := 21) (N := some 34) (v := ?_) (a' := ?_) (ba 33 2491416575) rfl rfl (any_of HT_.out (by kernel_rfl)) (fun _ _ _ h => hP _ _ _ _ _ h) (Or.inl ⟨by rfl, ?_⟩) ?_ ?_
    rotate_left
    ·intro w'; go_simp; with_reducible rfl
    rotate_left
    ·simp only [pS, pN, sB, sZ, sS, i64_w, i32_w]; rfl
    refine quiet_ (i := 23) (N := some 36) (a' := ?_) (ba 33 2499805183) rfl rfl (take_ofW HT_.out HW_.out (by kernel_rfl)) (fun _ _ _ h => hP _ _ _ _ _ h) (quiet_call Try.func22 (by kernel_rfl) rfl #[.slice A0 l0.length c0, .int .i64 3] (by rfl) rfl (by (try simp only [List.map_toArray, List.map_cons, List.map_nil]); first | done | rfl) (fun w' hS => g_quiet _ _ l0 3 t3 w' (Kd.C_below HR.out (hS.1)) HC.out H3.out)) (⟨HB350.out, L351.out, L352.out⟩) ?_ ?_
    rotate_left
    ·simp only [pS, pN, sB, sZ, sS, i64_w, i32_w]; rfl
    refine pure_ (i := 24) (N := some 37) (v := ?_) (a' := ?_) (ba 33 2516582399) rfl rfl (any_of HT_.out (by kernel_rfl)) (fun _ _ _ h => hP _ _ _ _ _ h) (Or.inl ⟨by rfl, ?_⟩) ?_ ?_
    rotate_left
    ·intro w'; go_simp; with_reducible rfl
    rotate_left
    ·simp only [pS, pN, sB, sZ, sS, i64_w, i32_w]; rfl
    refine pure_ (i := 25) (N := some 38) (v := ?_) (a' := ?_) (ba 33 2550136831) rfl rfl (any_of HT_.out (by kernel_rfl)) (fun _ _ _ h => hP _ _ _ _ _ h) (Or.inl ⟨by rfl, ?_⟩) ?_ ?_
    rotate_left
    ·intro w'; go_simp; with_reducible rfl
    rotate_left
    ·simp only [pS, pN, sB, sZ, sS, i64_w, i32_w]; rfl
    refine quiet_ (i := 27) (N := some 40) (a' := ?_) (ba 33 2684354559) rfl rfl (take_ofW HT_.out HW_.out (by kernel_rfl)) (fun _ _ _ h => hP _ _ _ _ _ h) (quiet_call Try.func22 (by kernel_rfl) rfl #[.slice A0 l0.length c0, .int .i64 4] (by rfl) rfl (by (try simp only [List.map_toArray, List.map_cons, List.map_nil]); first | done | rfl) (fun w' hS => g_quiet _ _ l0 4 t4 w' (Kd.C_below HR.out (hS.1)) HC.out H4.out)) (⟨HB350.out, L351.out, L352.out⟩) ?_ ?_
    rotate_left
    ·simp only [pS, pN, sB, sZ, sS, i64_w, i32_w]; rfl
    refine pure_ (i := 29) (N := some 42) (v := ?_) (a' := ?_) (ba 33 3221225471) rfl rfl (any_of HT_.out (by kernel_rfl)) (fun _ _ _ h => hP _ _ _ _ _ h) (Or.inl ⟨by rfl, ?_⟩) ?_ ?_
    rotate_left
    ·intro w'; go_simp; with_reducible rfl
    rotate_left
    ·simp only [pS, pN, sB, sZ, sS, i64_w, i32_w]; rfl
    refine pure_ (i := 30) (N := some 43) (v := ?_) (a' := ?_) (ba 33 4294967295) rfl rfl (any_of HT_.out (by kernel_rfl)) (fun _ _ _ h => hP _ _ _ _ _ h) (Or.inl ⟨by rfl, ?_⟩) ?_ ?_
    rotate_left
    ·intro w'; go_simp; with_reducible rfl
    rotate_left
    ·simp only [pS, pN, sB, sZ, sS, i64_w, i32_w]; rfl
    refine one_ (i := 32) (N := none) (ba 33 8589934591) rfl rfl (one_of HT_.out (by kernel_rfl)) (by decide) (fun K hK => ?_)
    rw [if_pos (by rfl)]
    refine wp_store_row 46 _ _ rfl (w240.heap.size) (vR a1 a3 t2 t3 t4 tx s1 s2) rfl rfl 46 #[.int .i64 0, .string ⟨#[]⟩, .string ⟨#[]⟩, .string ⟨#[]⟩, .int .i64 0, .int .i64 0, .int .i64 0, .slice none 0 0, .slice none 0 0, .string ⟨#[]⟩] X353.out size46 rfl (one46 _ _ _ _ _ _ _ _) ?_
    have HB354 := Aside0.mk (below_setRow HB350.out GX325.out (vR a1 a3 t2 t3 t4 tx s1 s2))
    have HF_ := Aside0.mk (setRow_heap _ _ _ (vR a1 a3 t2 t3 t4 tx s1 s2) _ _ X353.out)
    have L355 := Aside0.mk ((cell_setRow_other _ _ (vR a1 a3 t2 t3 t4 tx s1 s2) _ NE324.out.symm).trans L351.out)
    have L356 := Aside0.mk ((cell_setRow_other _ _ (vR a1 a3 t2 t3 t4 tx s1 s2) _ NE347.out.symm).trans L352.out)
    refine hK.out _ _ (⟨HB354.out, L355.out, L356.out⟩) (fun _ => ?_)
    clear hK K
    refine done_ (done_of HT_.out (by kernel_rfl)) ?_
    exact HQ.out _ _ _ _ _ _ _ _ _ _ _ _ _ _ _ _ _ _ _ _ _ _ _ _ _ _ _ _ _ _ _ (w240.heap.size) _ GX325.out HB354.out HF_.out
 ·skip
  refine value_ (w1 := ?_) (v := ?_) (by rfl) rfl ?_ ?_
  rotate_left 2
  ·go_simp
   constructor
   ·rfl
   ·rfl
  have hb357 := Aside0.mk ((Below.refl _ w0).alloc (Nat.le_refl _) (.cells #[.int .i64 0, .string ⟨#[]⟩, .string ⟨#[]⟩, .string ⟨#[]⟩, .int .i64 0, .int .i64 0, .int .i64 0, .slice none 0 0, .slice none 0 0, .string ⟨#[]⟩] 46))
  have HB358 := Aside0.mk (below_step HB0.out hb357.out)
  have X359 := Aside0.mk (heap_alloc_new w0 (.cells #[.int .i64 0, .string ⟨#[]⟩, .string ⟨#[]⟩, .string ⟨#[]⟩, .int .i64 0, .int .i64 0, .int .i64 0, .slice none 0 0, .slice none 0 0, .string ⟨#[]⟩] 46))
  generalize hW_ : w0.alloc (.cells #[.int .i64 0, .string ⟨#[]⟩, .string ⟨#[]⟩, .string ⟨#[]⟩, .int .i64 0, .int .i64 0, .int .i64 0, .slice none 0 0, .slice none 0 0, .string ⟨#[]⟩] 46) = w360 at *
  clear hW_
  have GX361 := Aside0.mk (HB0.out.size)
  refine hK.out _ _ (HB358.out) (fun _ => ?_)
  clear hK K
  refine norm_ (a' := ?_) ?_ ?_
  rotate_left
  ·show Act.put _ (some 9) _ = _
   simp only [pS, pN, sB, sZ, sS]
   rfl
  refine three_ (i := 3) (j := 5) (k := 11) (Ni := some 16) (Nj := some 18) (Nk := some 24) (ba 33 2487488591) (ba 33 2487488615) (ba 33 2487490631) rfl rfl rfl rfl rfl rfl (three_of HT_.out (by kernel_rfl)) (by decide) (by decide) (by decide) (fun K hK => ?_) (fun K hK => ?_) (fun K hK => ?_)
  ·skip
   refine goes_ Try.func35 (by kernel_rfl) rfl #[.int .i64 t0, .int .i64 19] (by rfl) rfl rfl (by (try simp only [List.map_toArray, List.map_cons, List.map_nil]); first | done | rfl) ?_
   with_reducible refine (roadsteadlaw10_text.calls k t0 19 tx _ HX.out).mono ?_
   rintro e w362 ⟨rfl, hb0_⟩
   refine ⟨_, rfl, ?_⟩
   have hb363 := Aside0.mk hb0_
   clear hb0_
   have HB364 := Aside0.mk (below_step HB358.out hb363.out)
   have X365 := Aside0.mk ((hb363.out.block _ (Array.getElem?_eq_some_iff.1 X359.out).1).trans X359.out)
   refine hK.out _ _ (HB364.out) (fun _ => ?_)
   clear hK K
   refine norm_ (a' := ?_) ?_ ?_
   rotate_left
   ·show Act.put _ (some 16) _ = _
    simp only [pS, pN, sB, sZ, sS]
    rfl
   refine pure_ (i := 4) (N := some 17) (v := ?_) (a' := ?_) (ba 33 2487488607) rfl rfl (any_of HT_.out (by kernel_rfl)) (fun _ _ _ h => hP _ _ _ _ _ h) (Or.inl ⟨by rfl, ?_⟩) ?_ ?_
   rotate_left
   ·intro w'; go_simp; with_reducible rfl
   rotate_left
   ·simp only [pS, pN, sB, sZ, sS, i64_w, i32_w]; rfl
   refine quiet_ (i := 7) (N := some 20) (a' := ?_) (ba 33 2487488735) rfl rfl (take_ofW HT_.out HW_.out (by kernel_rfl)) (fun _ _ _ h => hP _ _ _ _ _ h) (quiet_call Try.func22 (by kernel_rfl) rfl #[.slice A0 l0.length c0, .int .i64 1] (by rfl) rfl (by (try simp only [List.map_toArray, List.map_cons, List.map_nil]); first | done | rfl) (fun w' hS => g_quiet _ _ l0 1 t1 w' (Kd.C_below HR.out (hS)) HC.out H1.out)) (HB364.out) ?_ ?_
   rotate_left
   ·simp only [pS, pN, sB, sZ, sS, i64_w, i32_w]; rfl
   refine pure_ (i := 8) (N := some 21) (v := ?_) (a' := ?_) (ba 33 2487488991) rfl rfl (any_of HT_.out (by kernel_rfl)) (fun _ _ _ h => hP _ _ _ _ _ h) (Or.inl ⟨by rfl, ?_⟩) ?_ ?_
   rotate_left
   ·intro w'; go_simp; with_reducible rfl
   rotate_left
   ·simp only [pS, pN, sB, sZ, sS, i64_w, i32_w]; rfl
   refine quiet_ (i := 13) (N := some 26) (a' := ?_) (ba 33 2487497183) rfl rfl (take_ofW HT_.out HW_.out (by kernel_rfl)) (fun _ _ _ h => hP _ _ _ _ _ h) (quiet_call Try.func22 (by kernel_rfl) rfl #[.slice A0 l0.length c0, .int .i64 1] (by rfl) rfl (by (try simp only [List.map_toArray, List.map_cons, List.map_nil]); first | done | rfl) (fun w' hS => g_quiet _ _ l0 1 t1 w' (Kd.C_below HR.out (hS)) HC.out H1.out)) (HB364.out) ?_ ?_
   rotate_left
   ·simp only [pS, pN, sB, sZ, sS, i64_w, i32_w]; rfl
   refine pure_ (i := 14) (N := some 27) (v := ?_) (a' := ?_) (ba 33 2487513567) rfl rfl (any_of HT_.out (by kernel_rfl)) (fun _ _ _ h => hP _ _ _ _ _ h) (Or.inl ⟨by rfl, ?_⟩) ?_ ?_
   rotate_left
   ·intro w'; go_simp; with_reducible rfl
   rotate_left
   ·simp only [pS, pN, sB, sZ, sS, i64_w, i32_w]; rfl
   refine pure_ (i := 15) (N := some 28) (v := ?_) (a' := ?_) (ba 33 2487546335) rfl rfl (any_of HT_.out (by kernel_rfl)) (fun _ _ _ h => hP _ _ _ _ _ h) (Or.inl ⟨by rfl, ?_⟩) ?_ ?_
   rotate_left
   ·intro w'; go_simp; with_reducible rfl
   rotate_left
   ·simp only [pS, pN, sB, sZ, sS, i64_w, i32_w]; rfl
   refine quiet_ (i := 19) (N := some 32) (a' := ?_) (ba 33 2488070623) rfl rfl (take_ofW HT_.out HW_.out (by kernel_rfl)) (fun _ _ _ h => hP _ _ _ _ _ h) (quiet_call Try.func22 (by kernel_rfl) rfl #[.slice A0 l0.length c0, .int .i64 2] (by rfl) rfl (by (try simp only [List.map_toArray, List.map_cons, List.map_nil]); first | done | rfl) (fun w' hS => g_quiet _ _ l0 2 t2 w' (Kd.C_below HR.out (hS)) HC.out H2.out)) (HB364.out) ?_ ?_
   rotate_left
   ·simp only [pS, pN, sB, sZ, sS, i64_w, i32_w]; rfl
   refine pure_ (i := 20) (N := some 33) (v := ?_) (a' := ?_) (ba 33 2489119199) rfl rfl (any_of HT_.out (by kernel_rfl)) (fun _ _ _ h => hP _ _ _ _ _ h) (Or.inl ⟨by rfl, ?_⟩) ?_ ?_
   rotate_left
   ·intro w'; go_simp; with_reducible rfl
   rotate_left
   ·simp only [pS, pN, sB, sZ, sS, i64_w, i32_w]; rfl
   refine pure_ (i := 21) (N := some 34) (v := ?_) (a' := ?_) (ba 33 2491216351) rfl rfl (any_of HT_.out (by kernel_rfl)) (fun _ _ _ h => hP _ _ _ _ _ h) (Or.inl ⟨by rfl, ?_⟩) ?_ ?_
   rotate_left
   ·intro w'; go_simp; with_reducible rfl
   rotate_left
   ·simp only [pS, pN, sB, sZ, sS, i64_w, i32_w]; rfl
   refine quiet_ (i := 23) (N := some 36) (a' := ?_) (ba 33 2499604959) rfl rfl (take_ofW HT_.out HW_.out (by kernel_rfl)) (fun _ _ _ h => hP _ _ _ _ _ h) (quiet_call Try.func22 (by kernel_rfl) rfl #[.slice A0 l0.length c0, .int .i64 3] (by rfl) rfl (by (try simp only [List.map_toArray, List.map_cons, List.map_nil]); first | done | rfl) (fun w' hS => g_quiet _ _ l0 3 t3 w' (Kd.C_below HR.out (hS)) HC.out H3.out)) (HB364.out) ?_ ?_
   rotate_left
   ·simp only [pS, pN, sB, sZ, sS, i64_w, i32_w]; rfl
   refine pure_ (i := 24) (N := some 37) (v := ?_) (a' := ?_) (ba 33 2516382175) rfl rfl (any_of HT_.out (by kernel_rfl)) (fun _ _ _ h => hP _ _ _ _ _ h) (Or.inl ⟨by rfl, ?_⟩) ?_ ?_
   rotate_left
   ·intro w'; go_simp; with_reducible rfl
   rotate_left
   ·simp only [pS, pN, sB, sZ, sS, i64_w, i32_w]; rfl
   refine pure_ (i := 25) (N := some 38) (v := ?_) (a' := ?_) (ba 33 2549936607) rfl rfl (any_of HT_.out (by kernel_rfl)) (fun _ _ _ h => hP _ _ _ _ _ h) (Or.inl ⟨by rfl, ?_⟩) ?_ ?_
   rotate_left
   ·intro w'; go_simp; with_reducible rfl
   rotate_left
   ·simp only [pS, pN, sB, sZ, sS, i64_w, i32_w]; rfl
   refine quiet_ (i := 27) (N := some 40) (a' := ?_) (ba 33 2684154335) rfl rfl (take_ofW HT_.out HW_.out (by kernel_rfl)) (fun _ _ _ h => hP _ _ _ _ _ h) (quiet_call Try.func22 (by kernel_rfl) rfl #[.slice A0 l0.length c0, .int .i64 4] (by rfl) rfl (by (try simp only [List.map_toArray, List.map_cons, List.map_nil]); first | done | rfl) (fun w' hS => g_quiet _ _ l0 4 t4 w' (Kd.C_below HR.out (hS)) HC.out H4.out)) (HB364.out) ?_ ?_
   rotate_left
   ·simp only [pS, pN, sB, sZ, sS, i64_w, i32_w]; rfl
   refine pure_ (i := 29) (N := some 42) (v := ?_) (a' := ?_) (ba 33 3221025247) rfl rfl (any_of HT_.out (by kernel_rfl)) (fun _ _ _ h => hP _ _ _ _ _ h) (Or.inl ⟨by rfl, ?_⟩) ?_ ?_
   rotate_left
   ·intro w'; go_simp; with_reducible rfl
   rotate_left
   ·simp only [pS, pN, sB, sZ, sS, i64_w, i32_w]; rfl
   refine two_ (i := 5) (j := 11) (Ni := some 18) (Nj := some 24) (ba 33 3221025279) (ba 33 3221027295) rfl rfl rfl rfl (two_of HT_.out (by kernel_rfl)) (by decide) (by decide) (fun K hK => ?_) (fun K hK => ?_)
   ·skip
    refine value_ (w1 := ?_) (v := ?_) (by rfl) rfl ?_ ?_
    rotate_left 2
    ·go_simp
     constructor
     ·rfl
     ·rfl
    have hb366 := Aside0.mk ((Below.refl _ w362).alloc (Nat.le_refl _) (.cells #[.string (⟨#[35]⟩ : ByteArray), .string (⟨#[97]⟩ : ByteArray), .string (⟨#[97, 47, 43]⟩ : ByteArray), .string (⟨#[98, 47, 35]⟩ : ByteArray)] 9))
    have HB367 := Aside0.mk (below_step HB364.out hb366.out)
    have L368 := Aside0.mk (HLA.out w362)
    have X370 := Aside0.mk ((hb366.out.block _ (Array.getElem?_eq_some_iff.1 X365.out).1).trans X365.out)
    generalize hW_ : w362.alloc (.cells #[.string (⟨#[35]⟩ : ByteArray), .string (⟨#[97]⟩ : ByteArray), .string (⟨#[97, 47, 43]⟩ : ByteArray), .string (⟨#[98, 47, 35]⟩ : ByteArray)] 9) = w369 at *
    clear hW_
    have NE371 := Aside0.mk (Nat.ne_of_lt (Array.getElem?_eq_some_iff.1 X365.out).1)
    refine hK.out _ _ (HB367.out) (fun _ => ?_)
    clear hK K
    refine norm_ (a' := ?_) ?_ ?_
    rotate_left
    ·show Act.put _ (some 18) _ = _
     simp only [pS, pN, sB, sZ, sS]
     rfl
    refine restart_ (S2 := fun w' => Below w.heap.size w w' ∧ w'.cell? ⟨w362.heap.size, n1, none⟩ = some (.string s1)) (fun w' h => h.1) (⟨HB367.out, L368.out⟩) ?_
    refine pure_ (i := 9) (N := some 22) (v := ?_) (a' := ?_) (ba 33 3221025791) rfl rfl (any_of HT_.out (by kernel_rfl)) (fun _ _ _ h => hP _ _ _ _ _ h) (Or.inl ⟨by rfl, ?_⟩) ?_ ?_
    rotate_left
    ·intro w'; go_simp; with_reducible rfl
    rotate_left
    ·simp only [pS, pN, sB, sZ, sS, i64_w, i32_w]; rfl
    refine take_ (i := 10) (N := some 23) (v := ?_) (a' := ?_) (ba 33 3221026815) rfl rfl (take_ofW HT_.out HW_.out (by kernel_rfl)) (fun _ _ _ h => hP _ _ _ _ _ h) (Or.inl ⟨by rfl, ?_⟩) (⟨HB367.out, L368.out⟩) ?_ ?_
    rotate_left
    ·intro w' hS
     have hl_ := hS.2
     go_simp
     with_reducible rfl
    rotate_left
    ·simp only [pS, pN, sB, sZ, sS, i64_w, i32_w]; rfl
    refine one_ (i := 11) (N := some 24) (ba 33 3221028863) rfl rfl (one_of HT_.out (by kernel_rfl)) (by decide) (fun K hK => ?_)
    refine value_ (w1 := ?_) (v := ?_) (by rfl) rfl ?_ ?_
    rotate_left 2
    ·go_simp
     constructor
     ·rfl
     ·rfl
    have hb372 := Aside0.mk ((Below.refl _ w369).alloc (Nat.le_refl _) (.cells #[.string ⟨#[]⟩, .string (⟨#[97, 61, 49]⟩ : ByteArray), .string (⟨#[97, 61, 49, 44, 98, 61, 50]⟩ : ByteArray)] 9))
    have HB373 := Aside0.mk (below_step HB367.out hb372.out)
    have L374 := Aside0.mk (HLB.out w369)
    have L376 := Aside0.mk ((hb372.out.cell (p := ⟨w362.heap.size, n1, none⟩) (block_lt_of_cell L368.out)).trans L368.out)
    have X377 := Aside0.mk ((hb372.out.block _ (Array.getElem?_eq_some_iff.1 X370.out).1).trans X370.out)
    generalize hW_ : w369.alloc (.cells #[.string ⟨#[]⟩, .string (⟨#[97, 61, 49]⟩ : ByteArray), .string (⟨#[97, 61, 49, 44, 98, 61, 50]⟩ : ByteArray)] 9) = w375 at *
    clear hW_
    have NE378 := Aside0.mk (Nat.ne_of_lt (Array.getElem?_eq_some_iff.1 X370.out).1)
    refine hK.out _ _ (⟨HB373.out, L376.out⟩) (fun _ => ?_)
    clear hK K
    refine norm_ (a' := ?_) ?_ ?_
    rotate_left
    ·show Act.put _ (some 24) _ = _
     simp only [pS, pN, sB, sZ, sS]
     rfl
    refine restart_ (S2 := fun w' => Below w.heap.size w w' ∧ w'.cell? ⟨w362.heap.size, n1, none⟩ = some (.string s1) ∧ w'.cell? ⟨w369.heap.size, n2, none⟩ = some (.string s2)) (fun w' h => ⟨h.1, h.2.1⟩) (⟨HB373.out, L376.out, L374.out⟩) ?_
    refine pure_ (i := 16) (N := some 29) (v := ?_) (a' := ?_) (ba 33 3221094399) rfl rfl (any_of HT_.out (by kernel_rfl)) (fun _ _ _ h => hP _ _ _ _ _ h) (Or.inl ⟨by rfl, ?_⟩) ?_ ?_
    rotate_left
    ·intro w'; go_simp; with_reducible rfl
    rotate_left
    ·simp only [pS, pN, sB, sZ, sS, i64_w, i32_w]; rfl
    refine take_ (i := 17) (N := some 30) (v := ?_) (a' := ?_) (ba 33 3221225471) rfl rfl (take_ofW HT_.out HW_.out (by kernel_rfl)) (fun _ _ _ h => hP _ _ _ _ _ h) (Or.inl ⟨by rfl, ?_⟩) (⟨HB373.out, L376.out, L374.out⟩) ?_ ?_
    rotate_left
    ·intro w' hS
     have hl_ := hS.2.2
     go_simp
     with_reducible rfl
    rotate_left
    ·simp only [pS, pN, sB, sZ, sS, i64_w, i32_w]; rfl
    refine pure_ (i := 30) (N := some 43) (v := ?_) (a' := ?_) (ba 33 4294967295) rfl rfl (any_of HT_.out (by kernel_rfl)) (fun _ _ _ h => hP _ _ _ _ _ h) (Or.inl ⟨by rfl, ?_⟩) ?_ ?_
    rotate_left
    ·intro w'; go_simp; with_reducible rfl
    rotate_left
    ·simp only [pS, pN, sB, sZ, sS, i64_w, i32_w]; rfl
    refine one_ (i := 32) (N := none) (ba 33 8589934591) rfl rfl (one_of HT_.out (by kernel_rfl)) (by decide) (fun K hK => ?_)
    rw [if_pos (by rfl)]
    refine wp_store_row 46 _ _ rfl (w0.heap.size) (vR a1 a3 t2 t3 t4 tx s1 s2) rfl rfl 46 #[.int .i64 0, .string ⟨#[]⟩, .string ⟨#[]⟩, .string ⟨#[]⟩, .int .i64 0, .int .i64 0, .int .i64 0, .slice none 0 0, .slice none 0 0, .string ⟨#[]⟩] X377.out size46 rfl (one46 _ _ _ _ _ _ _ _) ?_
    have HB379 := Aside0.mk (below_setRow HB373.out GX361.out (vR a1 a3 t2 t3 t4 tx s1 s2))
    have HF_ := Aside0.mk (setRow_heap _ _ _ (vR a1 a3 t2 t3 t4 tx s1 s2) _ _ X377.out)
    have L380 := Aside0.mk ((cell_setRow_other _ _ (vR a1 a3 t2 t3 t4 tx s1 s2) _ NE371.out.symm).trans L376.out)
    have L381 := Aside0.mk ((cell_setRow_other _ _ (vR a1 a3 t2 t3 t4 tx s1 s2) _ NE378.out.symm).trans L374.out)
    refine hK.out _ _ (⟨HB379.out, L380.out, L381.out⟩) (fun _ => ?_)
    clear hK K
    refine done_ (done_of HT_.out (by kernel_rfl)) ?_
    exact HQ.out _ _ _ _ _ _ _ _ _ _ _ _ _ _ _ _ _ _ _ _ _ _ _ _ _ _ _ _ _ _ _ (w0.heap.size) _ GX361.out HB379.out HF_.out
   ·skip
    refine value_ (w1 := ?_) (v := ?_) (by rfl) rfl ?_ ?_
    rotate_left 2
    ·go_simp
     constructor
     ·rfl
     ·rfl
    have hb382 := Aside0.mk ((Below.refl _ w362).alloc (Nat.le_refl _) (.cells #[.string ⟨#[]⟩, .string (⟨#[97, 61, 49]⟩ : ByteArray), .string (⟨#[97, 61, 49, 44, 98, 61, 50]⟩ : ByteArray)] 9))
    have HB383 := Aside0.mk (below_step HB364.out hb382.out)
    have L384 := Aside0.mk (HLB.out w362)
    have X386 := Aside0.mk ((hb382.out.block _ (Array.getElem?_eq_some_iff.1 X365.out).1).trans X365.out)
    generalize hW_ : w362.alloc (.cells #[.string ⟨#[]⟩, .string (⟨#[97, 61, 49]⟩ : ByteArray), .string (⟨#[97, 61, 49, 44, 98, 61, 50]⟩ : ByteArray)] 9) = w385 at *
    clear hW_
    have NE387 := Aside0.mk (Nat.ne_of_lt (Array.getElem?_eq_some_iff.1 X365.out).1)
    refine hK.out _ _ (HB383.out) (fun _ => ?_)
    clear hK K
    refine norm_ (a' := ?_) ?_ ?_
    rotate_left
    ·show Act.put _ (some 24) _ = _
     simp only [pS, pN, sB, sZ, sS]
     rfl
    refine restart_ (S2 := fun w' => Below w.heap.size w w' ∧ w'.cell? ⟨w362.heap.size, n2, none⟩ = some (.string s2)) (fun w' h => h.1) (⟨HB383.out, L384.out⟩) ?_
    refine pure_ (i := 16) (N := some 29) (v := ?_) (a' := ?_) (ba 33 3221092831) rfl rfl (any_of HT_.out (by kernel_rfl)) (fun _ _ _ h => hP _ _ _ _ _ h) (Or.inl ⟨by rfl, ?_⟩) ?_ ?_
    rotate_left
    ·intro w'; go_simp; with_reducible rfl
    rotate_left
    ·simp only [pS, pN, sB, sZ, sS, i64_w, i32_w]; rfl
    refine take_ (i := 17) (N := some 30) (v := ?_) (a' := ?_) (ba 33 3221223903) rfl rfl (take_ofW HT_.out HW_.out (by kernel_rfl)) (fun _ _ _ h => hP _ _ _ _ _ h) (Or.inl ⟨by rfl, ?_⟩) (⟨HB383.out, L384.out⟩) ?_ ?_
    rotate_left
    ·intro w' hS
     have hl_ := hS.2
     go_simp
     with_reducible rfl
    rotate_left
    ·simp only [pS, pN, sB, sZ, sS, i64_w, i32_w]; rfl
    refine one_ (i := 5) (N := some 18) (ba 33 3221223935) rfl rfl (one_of HT_.out (by kernel_rfl)) (by decide) (fun K hK => ?_)
    refine value_ (w1 := ?_) (v := ?_) (by rfl) rfl ?_ ?_
    rotate_left 2
    ·go_simp
     constructor
     ·rfl
     ·rfl
    have hb388 := Aside0.mk ((Below.refl _ w385).alloc (Nat.le_refl _) (.cells #[.string (⟨#[35]⟩ : ByteArray), .string (⟨#[97]⟩ : ByteArray), .string (⟨#[97, 47, 43]⟩ : ByteArray), .string (⟨#[98, 47, 35]⟩ : ByteArray)] 9))
    have HB389 := Aside0.mk (below_step HB383.out hb388.out)
    have L390 := Aside0.mk (HLA.out w385)
    have L392 := Aside0.mk ((hb388.out.cell (p := ⟨w362.heap.size, n2, none⟩) (block_lt_of_cell L384.out)).trans L384.out)
    have X393 := Aside0.mk ((hb388.out.block _ (Array.getElem?_eq_some_iff.1 X386.out).1).trans X386.out)
    generalize hW_ : w385.alloc (.cells #[.string (⟨#[35]⟩ : ByteArray), .string (⟨#[97]⟩ : ByteArray), .string (⟨#[97, 47, 43]⟩ : ByteArray), .string (⟨#[98, 47, 35]⟩ : ByteArray)] 9) = w391 at *
    clear hW_
    have NE394 := Aside0.mk (Nat.ne_of_lt (Array.getElem?_eq_some_iff.1 X386.out).1)
    refine hK.out _ _ (⟨HB389.out, L392.out⟩) (fun _ => ?_)
    clear hK K
    refine norm_ (a' := ?_) ?_ ?_
    rotate_left
    ·show Act.put _ (some 18) _ = _
     simp only [pS, pN, sB, sZ, sS]
     rfl
    refine restart_ (S2 := fun w' => Below w.heap.size w w' ∧ w'.cell? ⟨w362.heap.size, n2, none⟩ = some (.string s2) ∧ w'.cell? ⟨w385.heap.size, n1, none⟩ = some (.string s1)) (fun w' h => ⟨h.1, h.2.1⟩) (⟨HB389.out, L392.out, L390.out⟩) ?_
    refine pure_ (i := 9) (N := some 22) (v := ?_) (a' := ?_) (ba 33 3221224447) rfl rfl (any_of HT_.out (by kernel_rfl)) (fun _ _ _ h => hP _ _ _ _ _ h) (Or.inl ⟨by rfl, ?_⟩) ?_ ?_
    rotate_left
    ·intro w'; go_simp; with_reducible rfl
    rotate_left
    ·simp only [pS, pN, sB, sZ, sS, i64_w, i32_w]; rfl
    refine take_ (i := 10) (N := some 23) (v := ?_) (a' := ?_) (ba 33 3221225471) rfl rfl (take_ofW HT_.out HW_.out (by kernel_rfl)) (fun _ _ _ h => hP _ _ _ _ _ h) (Or.inl ⟨by rfl, ?_⟩) (⟨HB389.out, L392.out, L390.out⟩) ?_ ?_
    rotate_left
    ·intro w' hS
     have hl_ := hS.2.2
     go_simp
     with_reducible rfl
    rotate_left
    ·simp only [pS, pN, sB, sZ, sS, i64_w, i32_w]; rfl
    refine pure_ (i := 30) (N := some 43) (v := ?_) (a' := ?_) (ba 33 4294967295) rfl rfl (any_of HT_.out (by kernel_rfl)) (fun _ _ _ h => hP _ _ _ _ _ h) (Or.inl ⟨by rfl, ?_⟩) ?_ ?_
    rotate_left
    ·intro w'; go_simp; with_reducible rfl
    rotate_left
    ·simp only [pS, pN, sB, sZ, sS, i64_w, i32_w]; rfl
    refine one_ (i := 32) (N := none) (ba 33 8589934591) rfl rfl (one_of HT_.out (by kernel_rfl)) (by decide) (fun K hK => ?_)
    rw [if_pos (by rfl)]
    refine wp_store_row 46 _ _ rfl (w0.heap.size) (vR a1 a3 t2 t3 t4 tx s1 s2) rfl rfl 46 #[.int .i64 0, .string ⟨#[]⟩, .string ⟨#[]⟩, .string ⟨#[]⟩, .int .i64 0, .int .i64 0, .int .i64 0, .slice none 0 0, .slice none 0 0, .string ⟨#[]⟩] X393.out size46 rfl (one46 _ _ _ _ _ _ _ _) ?_
    have HB395 := Aside0.mk (below_setRow HB389.out GX361.out (vR a1 a3 t2 t3 t4 tx s1 s2))
    have HF_ := Aside0.mk (setRow_heap _ _ _ (vR a1 a3 t2 t3 t4 tx s1 s2) _ _ X393.out)
    have L396 := Aside0.mk ((cell_setRow_other _ _ (vR a1 a3 t2 t3 t4 tx s1 s2) _ NE387.out.symm).trans L392.out)
    have L397 := Aside0.mk ((cell_setRow_other _ _ (vR a1 a3 t2 t3 t4 tx s1 s2) _ NE394.out.symm).trans L390.out)
    refine hK.out _ _ (⟨HB395.out, L396.out, L397.out⟩) (fun _ => ?_)
    clear hK K
    refine done_ (done_of HT_.out (by kernel_rfl)) ?_
    exact HQ.out _ _ _ _ _ _ _ _ _ _ _ _ _ _ _ _ _ _ _ _ _ _ _ _ _ _ _ _ _ _ _ (w0.heap.size) _ GX361.out HB395.out HF_.out
  ·skip
   refine value_ (w1 := ?_) (v := ?_) (by rfl) rfl ?_ ?_
   rotate_left 2
   ·go_simp
    constructor
    ·rfl
    ·rfl
   have hb398 := Aside0.mk ((Below.refl _ w360).alloc (Nat.le_refl _) (.cells #[.string (⟨#[35]⟩ : ByteArray), .string (⟨#[97]⟩ : ByteArray), .string (⟨#[97, 47, 43]⟩ : ByteArray), .string (⟨#[98, 47, 35]⟩ : ByteArray)] 9))
   have HB399 := Aside0.mk (below_step HB358.out hb398.out)
   have L400 := Aside0.mk (HLA.out w360)
   have X402 := Aside0.mk ((hb398.out.block _ (Array.getElem?_eq_some_iff.1 X359.out).1).trans X359.out)
   generalize hW_ : w360.alloc (.cells #[.string (⟨#[35]⟩ : ByteArray), .string (⟨#[97]⟩ : ByteArray), .string (⟨#[97, 47, 43]⟩ : ByteArray), .string (⟨#[98, 47, 35]⟩ : ByteArray)] 9) = w401 at *
   clear hW_
   have NE403 := Aside0.mk (Nat.ne_of_lt (Array.getElem?_eq_some_iff.1 X359.out).1)
   refine hK.out _ _ (HB399.out) (fun _ => ?_)
   clear hK K
   refine norm_ (a' := ?_) ?_ ?_
   rotate_left
   ·show Act.put _ (some 18) _ = _
    simp only [pS, pN, sB, sZ, sS]
    rfl
   refine restart_ (S2 := fun w' => Below w.heap.size w w' ∧ w'.cell? ⟨w360.heap.size, n1, none⟩ = some (.string s1)) (fun w' h => h.1) (⟨HB399.out, L400.out⟩) ?_
   refine two_ (i := 3) (j := 11) (Ni := some 16) (Nj := some 24) (ba 33 2487488623) (ba 33 2487490663) rfl rfl rfl rfl (two_of HT_.out (by kernel_rfl)) (by decide) (by decide) (fun K hK => ?_) (fun K hK => ?_)
   ·skip
    refine goes_ Try.func35 (by kernel_rfl) rfl #[.int .i64 t0, .int .i64 19] (by rfl) rfl rfl (by (try simp only [List.map_toArray, List.map_cons, List.map_nil]); first | done | rfl) ?_
    with_reducible refine (roadsteadlaw10_text.calls k t0 19 tx _ HX.out).mono ?_
    rintro e w404 ⟨rfl, hb0_⟩
    refine ⟨_, rfl, ?_⟩
    have hb405 := Aside0.mk hb0_
    clear hb0_
    have HB406 := Aside0.mk (below_step HB399.out hb405.out)
    have L407 := Aside0.mk ((hb405.out.cell (p := ⟨w360.heap.size, n1, none⟩) (block_lt_of_cell L400.out)).trans L400.out)
    have X408 := Aside0.mk ((hb405.out.block _ (Array.getElem?_eq_some_iff.1 X402.out).1).trans X402.out)
    refine hK.out _ _ (⟨HB406.out, L407.out⟩) (fun _ => ?_)
    clear hK K
    refine norm_ (a' := ?_) ?_ ?_
    rotate_left
    ·show Act.put _ (some 16) _ = _
     simp only [pS, pN, sB, sZ, sS]
     rfl
    refine pure_ (i := 4) (N := some 17) (v := ?_) (a' := ?_) (ba 33 2487488639) rfl rfl (any_of HT_.out (by kernel_rfl)) (fun _ _ _ h => hP _ _ _ _ _ h) (Or.inl ⟨by rfl, ?_⟩) ?_ ?_
    rotate_left
    ·intro w'; go_simp; with_reducible rfl
    rotate_left
    ·simp only [pS, pN, sB, sZ, sS, i64_w, i32_w]; rfl
    refine quiet_ (i := 7) (N := some 20) (a' := ?_) (ba 33 2487488767) rfl rfl (take_ofW HT_.out HW_.out (by kernel_rfl)) (fun _ _ _ h => hP _ _ _ _ _ h) (quiet_call Try.func22 (by kernel_rfl) rfl #[.slice A0 l0.length c0, .int .i64 1] (by rfl) rfl (by (try simp only [List.map_toArray, List.map_cons, List.map_nil]); first | done | rfl) (fun w' hS => g_quiet _ _ l0 1 t1 w' (Kd.C_below HR.out (hS.1)) HC.out H1.out)) (⟨HB406.out, L407.out⟩) ?_ ?_
    rotate_left
    ·simp only [pS, pN, sB, sZ, sS, i64_w, i32_w]; rfl
    refine pure_ (i := 8) (N := some 21) (v := ?_) (a' := ?_) (ba 33 2487489023) rfl rfl (any_of HT_.out (by kernel_rfl)) (fun _ _ _ h => hP _ _ _ _ _ h) (Or.inl ⟨by rfl, ?_⟩) ?_ ?_
    rotate_left
    ·intro w'; go_simp; with_reducible rfl
    rotate_left
    ·simp only [pS, pN, sB, sZ, sS, i64_w, i32_w]; rfl
    refine pure_ (i := 9) (N := some 22) (v := ?_) (a' := ?_) (ba 33 2487489535) rfl rfl (any_of HT_.out (by kernel_rfl)) (fun _ _ _ h => hP _ _ _ _ _ h) (Or.inl ⟨by rfl, ?_⟩) ?_ ?_
    rotate_left
    ·intro w'; go_simp; with_reducible rfl
    rotate_left
    ·simp only [pS, pN, sB, sZ, sS, i64_w, i32_w]; rfl
    refine take_ (i := 10) (N := some 23) (v := ?_) (a' := ?_) (ba 33 2487490559) rfl rfl (take_ofW HT_.out HW_.out (by kernel_rfl)) (fun _ _ _ h => hP _ _ _ _ _ h) (Or.inl ⟨by rfl, ?_⟩) (⟨HB406.out, L407.out⟩) ?_ ?_
    rotate_left
    ·intro w' hS
     have hl_ := hS.2
     go_simp
     with_reducible rfl
    rotate_left
    ·simp only [pS, pN, sB, sZ, sS, i64_w, i32_w]; rfl
    refine quiet_ (i := 13) (N := some 26) (a' := ?_) (ba 33 2487498751) rfl rfl (take_ofW HT_.out HW_.out (by kernel_rfl)) (fun _ _ _ h => hP _ _ _ _ _ h) (quiet_call Try.func22 (by kernel_rfl) rfl #[.slice A0 l0.length c0, .int .i64 1] (by rfl) rfl (by (try simp only [List.map_toArray, List.map_cons, List.map_nil]); first | done | rfl) (fun w' hS => g_quiet _ _ l0 1 t1 w' (Kd.C_below HR.out (hS.1)) HC.out H1.out)) (⟨HB406.out, L407.out⟩) ?_ ?_
    rotate_left
    ·simp only [pS, pN, sB, sZ, sS, i64_w, i32_w]; rfl
    refine pure_ (i := 14) (N := some 27) (v := ?_) (a' := ?_) (ba 33 2487515135) rfl rfl (any_of HT_.out (by kernel_rfl)) (fun _ _ _ h => hP _ _ _ _ _ h) (Or.inl ⟨by rfl, ?_⟩) ?_ ?_
    rotate_left
    ·intro w'; go_simp; with_reducible rfl
    rotate_left
    ·simp only [pS, pN, sB, sZ, sS, i64_w, i32_w]; rfl
    refine pure_ (i := 15) (N := some 28) (v := ?_) (a' := ?_) (ba 33 2487547903) rfl rfl (any_of HT_.out (by kernel_rfl)) (fun _ _ _ h => hP _ _ _ _ _ h) (Or.inl ⟨by rfl, ?_⟩) ?_ ?_
    rotate_left
    ·intro w'; go_simp; with_reducible rfl
    rotate_left
    ·simp only [pS, pN, sB, sZ, sS, i64_w, i32_w]; rfl
    refine quiet_ (i := 19) (N := some 32) (a' := ?_) (ba 33 2488072191) rfl rfl (take_ofW HT_.out HW_.out (by kernel_rfl)) (fun _ _ _ h => hP _ _ _ _ _ h) (quiet_call Try.func22 (by kernel_rfl) rfl #[.slice A0 l0.length c0, .int .i64 2] (by rfl) rfl (by (try simp only [List.map_toArray, List.map_cons, List.map_nil]); first | done | rfl) (fun w' hS => g_quiet _ _ l0 2 t2 w' (Kd.C_below HR.out (hS.1)) HC.out H2.out)) (⟨HB406.out, L407.out⟩) ?_ ?_
    rotate_left
    ·simp only [pS, pN, sB, sZ, sS, i64_w, i32_w]; rfl
    refine pure_ (i := 20) (N := some 33) (v := ?_) (a' := ?_) (ba 33 2489120767) rfl rfl (any_of HT_.out (by kernel_rfl)) (fun _ _ _ h => hP _ _ _ _ _ h) (Or.inl ⟨by rfl, ?_⟩) ?_ ?_
    rotate_left
    ·intro w'; go_simp; with_reducible rfl
    rotate_left
    ·simp only [pS, pN, sB, sZ, sS, i64_w, i32_w]; rfl
    refine pure_ (i := 21) (N := some 34) (v := ?_) (a' := ?_) (ba 33 2491217919) rfl rfl (any_of HT_.out (by kernel_rfl)) (fun _ _ _ h => hP _ _ _ _ _ h) (Or.inl ⟨by rfl, ?_⟩) ?_ ?_
    rotate_left
    ·intro w'; go_simp; with_reducible rfl
    rotate_left
    ·simp only [pS, pN, sB, sZ, sS, i64_w, i32_w]; rfl
    refine quiet_ (i := 23) (N := some 36) (a' := ?_) (ba 33 2499606527) rfl rfl (take_ofW HT_.out HW_.out (by kernel_rfl)) (fun _ _ _ h => hP _ _ _ _ _ h) (quiet_call Try.func22 (by kernel_rfl) rfl #[.slice A0 l0.length c0, .int .i64 3] (by rfl) rfl (by (try simp only [List.map_toArray, List.map_cons, List.map_nil]); first | done | rfl) (fun w' hS => g_quiet _ _ l0 3 t3 w' (Kd.C_below HR.out (hS.1)) HC.out H3.out)) (⟨HB406.out, L407.out⟩) ?_ ?_
    rotate_left
    ·simp only [pS, pN, sB, sZ, sS, i64_w, i32_w]; rfl
    refine pure_ (i := 24) (N := some 37) (v := ?_) (a' := ?_) (ba 33 2516383743) rfl rfl (any_of HT_.out (by kernel_rfl)) (fun _ _ _ h => hP _ _ _ _ _ h) (Or.inl ⟨by rfl, ?_⟩) ?_ ?_
    rotate_left
    ·intro w'; go_simp; with_reducible rfl
    rotate_left
    ·simp only [pS, pN, sB, sZ, sS, i64_w, i32_w]; rfl
    refine pure_ (i := 25) (N := some 38) (v := ?_) (a' := ?_) (ba 33 2549938175) rfl rfl (any_of HT_.out (by kernel_rfl)) (fun _ _ _ h => hP _ _ _ _ _ h) (Or.inl ⟨by rfl, ?_⟩) ?_ ?_
    rotate_left
    ·intro w'; go_simp; with_reducible rfl
    rotate_left
    ·simp only [pS, pN, sB, sZ, sS, i64_w, i32_w]; rfl
    refine quiet_ (i := 27) (N := some 40) (a' := ?_) (ba 33 2684155903) rfl rfl (take_ofW HT_.out HW_.out (by kernel_rfl)) (fun _ _ _ h => hP _ _ _ _ _ h) (quiet_call Try.func22 (by kernel_rfl) rfl #[.slice A0 l0.length c0, .int .i64 4] (by rfl) rfl (by (try simp only [List.map_toArray, List.map_cons, List.map_nil]); first | done | rfl) (fun w' hS => g_quiet _ _ l0 4 t4 w' (Kd.C_below HR.out (hS.1)) HC.out H4.out)) (⟨HB406.out, L407.out⟩) ?_ ?_
    rotate_left
    ·simp only [pS, pN, sB, sZ, sS, i64_w, i32_w]; rfl
    refine pure_ (i := 29) (N := some 42) (v := ?_) (a' := ?_) (ba 33 3221026815) rfl rfl (any_of HT_.out (by kernel_rfl)) (fun _ _ _ h => hP _ _ _ _ _ h) (Or.inl ⟨by rfl, ?_⟩) ?_ ?_
    rotate_left
    ·intro w'; go_simp; with_reducible rfl
    rotate_left
    ·simp only [pS, pN, sB, sZ, sS, i64_w, i32_w]; rfl
    refine one_ (i := 11) (N := some 24) (ba 33 3221028863) rfl rfl (one_of HT_.out (by kernel_rfl)) (by decide) (fun K hK => ?_)
    refine value_ (w1 := ?_) (v := ?_) (by rfl) rfl ?_ ?_
    rotate_left 2
    ·go_simp
     constructor
     ·rfl
     ·rfl
    have hb409 := Aside0.mk ((Below.refl _ w404).alloc (Nat.le_refl _) (.cells #[.string ⟨#[]⟩, .string (⟨#[97, 61, 49]⟩ : ByteArray), .string (⟨#[97, 61, 49, 44, 98, 61, 50]⟩ : ByteArray)] 9))
    have HB410 := Aside0.mk (below_step HB406.out hb409.out)
    have L411 := Aside0.mk (HLB.out w404)
    have L413 := Aside0.mk ((hb409.out.cell (p := ⟨w360.heap.size, n1, none⟩) (block_lt_of_cell L407.out)).trans L407.out)
    have X414 := Aside0.mk ((hb409.out.block _ (Array.getElem?_eq_some_iff.1 X408.out).1).trans X408.out)
    generalize hW_ : w404.alloc (.cells #[.string ⟨#[]⟩, .string (⟨#[97, 61, 49]⟩ : ByteArray), .string (⟨#[97, 61, 49, 44, 98, 61, 50]⟩ : ByteArray)] 9) = w412 at *
    clear hW_
    have NE415 := Aside0.mk (Nat.ne_of_lt (Array.getElem?_eq_some_iff.1 X408.out).1)
    refine hK.out _ _ (⟨HB410.out, L413.out⟩) (fun _ => ?_)
    clear hK K
    refine norm_ (a' := ?_) ?_ ?_
    rotate_left
    ·show Act.put _ (some 24) _ = _
     simp only [pS, pN, sB, sZ, sS]
     rfl
    refine restart_ (S2 := fun w' => Below w.heap.size w w' ∧ w'.cell? ⟨w360.heap.size, n1, none⟩ = some (.string s1) ∧ w'.cell? ⟨w404.heap.size, n2, none⟩ = some (.string s2)) (fun w' h => ⟨h.1, h.2.1⟩) (⟨HB410.out, L413.out, L411.out⟩) ?_
    refine pure_ (i := 16) (N := some 29) (v := ?_) (a' := ?_) (ba 33 3221094399) rfl rfl (any_of HT_.out (by kernel_rfl)) (fun _ _ _ h => hP _ _ _ _ _ h) (Or.inl ⟨by rfl, ?_⟩) ?_ ?_
    rotate_left
    ·intro w'; go_simp; with_reducible rfl
    rotate_left
    ·simp only [pS, pN, sB, sZ, sS, i64_w, i32_w]; rfl
    refine take_ (i := 17) (N := some 30) (v := ?_) (a' := ?_) (ba 33 3221225471) rfl rfl (take_ofW HT_.out HW_.out (by kernel_rfl)) (fun _ _ _ h => hP _ _ _ _ _ h) (Or.inl ⟨by rfl, ?_⟩) (⟨HB410.out, L413.out, L411.out⟩) ?_ ?_
    rotate_left
    ·intro w' hS
     have hl_ := hS.2.2
     go_simp
     with_reducible rfl
    rotate_left
    ·simp only [pS, pN, sB, sZ, sS, i64_w, i32_w]; rfl
    refine pure_ (i := 30) (N := some 43) (v := ?_) (a' := ?_) (ba 33 4294967295) rfl rfl (any_of HT_.out (by kernel_rfl)) (fun _ _ _ h => hP _ _ _ _ _ h) (Or.inl ⟨by rfl, ?_⟩) ?_ ?_
    rotate_left
    ·intro w'; go_simp; with_reducible rfl
    rotate_left
    ·simp only [pS, pN, sB, sZ, sS, i64_w, i32_w]; rfl
    refine one_ (i := 32) (N := none) (ba 33 8589934591) rfl rfl (one_of HT_.out (by kernel_rfl)) (by decide) (fun K hK => ?_)
    rw [if_pos (by rfl)]
    refine wp_store_row 46 _ _ rfl (w0.heap.size) (vR a1 a3 t2 t3 t4 tx s1 s2) rfl rfl 46 #[.int .i64 0, .string ⟨#[]⟩, .string ⟨#[]⟩, .string ⟨#[]⟩, .int .i64 0, .int .i64 0, .int .i64 0, .slice none 0 0, .slice none 0 0, .string ⟨#[]⟩] X414.out size46 rfl (one46 _ _ _ _ _ _ _ _) ?_
    have HB416 := Aside0.mk (below_setRow HB410.out GX361.out (vR a1 a3 t2 t3 t4 tx s1 s2))
    have HF_ := Aside0.mk (setRow_heap _ _ _ (vR a1 a3 t2 t3 t4 tx s1 s2) _ _ X414.out)
    have L417 := Aside0.mk ((cell_setRow_other _ _ (vR a1 a3 t2 t3 t4 tx s1 s2) _ NE403.out.symm).trans L413.out)
    have L418 := Aside0.mk ((cell_setRow_other _ _ (vR a1 a3 t2 t3 t4 tx s1 s2) _ NE415.out.symm).trans L411.out)
    refine hK.out _ _ (⟨HB416.out, L417.out, L418.out⟩) (fun _ => ?_)
    clear hK K
    refine done_ (done_of HT_.out (by kernel_rfl)) ?_
    exact HQ.out _ _ _ _ _ _ _ _ _ _ _ _ _ _ _ _ _ _ _ _ _ _ _ _ _ _ _ _ _ _ _ (w0.heap.size) _ GX361.out HB416.out HF_.out
   ·skip
    refine value_ (w1 := ?_) (v := ?_) (by rfl) rfl ?_ ?_
    rotate_left 2
    ·go_simp
     constructor
     ·rfl
     ·rfl
    have hb419 := Aside0.mk ((Below.refl _ w401).alloc (Nat.le_refl _) (.cells #[.string ⟨#[]⟩, .string (⟨#[97, 61, 49]⟩ : ByteArray), .string (⟨#[97, 61, 49, 44, 98, 61, 50]⟩ : ByteArray)] 9))
    have HB420 := Aside0.mk (below_step HB399.out hb419.out)
    have L421 := Aside0.mk (HLB.out w401)
    have L423 := Aside0.mk ((hb419.out.cell (p := ⟨w360.heap.size, n1, none⟩) (block_lt_of_cell L400.out)).trans L400.out)
    have X424 := Aside0.mk ((hb419.out.block _ (Array.getElem?_eq_some_iff.1 X402.out).1).trans X402.out)
    generalize hW_ : w401.alloc (.cells #[.string ⟨#[]⟩, .string (⟨#[97, 61, 49]⟩ : ByteArray), .string (⟨#[97, 61, 49, 44, 98, 61, 50]⟩ : ByteArray)] 9) = w422 at *
    clear hW_
    have NE425 := Aside0.mk (Nat.ne_of_lt (Array.getElem?_eq_some_iff.1 X402.out).1)
    refine hK.out _ _ (⟨HB420.out, L423.out⟩) (fun _ => ?_)
    clear hK K
    refine norm_ (a' := ?_) ?_ ?_
    rotate_left
    ·show Act.put _ (some 24) _ = _
     simp only [pS, pN, sB, sZ, sS]
     rfl
    refine restart_ (S2 := fun w' => Below w.heap.size w w' ∧ w'.cell? ⟨w360.heap.size, n1, none⟩ = some (.string s1) ∧ w'.cell? ⟨w401.heap.size, n2, none⟩ = some (.string s2)) (fun w' h => ⟨h.1, h.2.1⟩) (⟨HB420.out, L423.out, L421.out⟩) ?_
    refine one_ (i := 3) (N := some 16) (ba 33 2487490671) rfl rfl (one_of HT_.out (by kernel_rfl)) (by decide) (fun K hK => ?_)
    refine goes_ Try.func35 (by kernel_rfl) rfl #[.int .i64 t0, .int .i64 19] (by rfl) rfl rfl (by (try simp only [List.map_toArray, List.map_cons, List.map_nil]); first | done | rfl) ?_
    with_reducible refine (roadsteadlaw10_text.calls k t0 19 tx _ HX.out).mono ?_
    rintro e w426 ⟨rfl, hb0_⟩
    refine ⟨_, rfl, ?_⟩
    have hb427 := Aside0.mk hb0_
    clear hb0_
    have HB428 := Aside0.mk (below_step HB420.out hb427.out)
    have L429 := Aside0.mk ((hb427.out.cell (p := ⟨w360.heap.size, n1, none⟩) (block_lt_of_cell L423.out)).trans L423.out)
    have L430 := Aside0.mk ((hb427.out.cell (p := ⟨w401.heap.size, n2, none⟩) (block_lt_of_cell L421.out)).trans L421.out)
    have X431 := Aside0.mk ((hb427.out.block _ (Array.getElem?_eq_some_iff.1 X424.out).1).trans X424.out)
    refine hK.out _ _ (⟨HB428.out, L429.out, L430.out⟩) (fun _ => ?_)
    clear hK K
    refine norm_ (a' := ?_) ?_ ?_
    rotate_left
    ·show Act.put _ (some 16) _ = _
     simp only [pS, pN, sB, sZ, sS]
     rfl
    refine pure_ (i := 4) (N := some 17) (v := ?_) (a' := ?_) (ba 33 2487490687) rfl rfl (any_of HT_.out (by kernel_rfl)) (fun _ _ _ h => hP _ _ _ _ _ h) (Or.inl ⟨by rfl, ?_⟩) ?_ ?_
    rotate_left
    ·intro w'; go_simp; with_reducible rfl
    rotate_left
    ·simp only [pS, pN, sB, sZ, sS, i64_w, i32_w]; rfl
    refine quiet_ (i := 7) (N := some 20) (a' := ?_) (ba 33 2487490815) rfl rfl (take_ofW HT_.out HW_.out (by kernel_rfl)) (fun _ _ _ h => hP _ _ _ _ _ h) (quiet_call Try.func22 (by kernel_rfl) rfl #[.slice A0 l0.length c0, .int .i64 1] (by rfl) rfl (by (try simp only [List.map_toArray, List.map_cons, List.map_nil]); first | done | rfl) (fun w' hS => g_quiet _ _ l0 1 t1 w' (Kd.C_below HR.out (hS.1)) HC.out H1.out)) (⟨HB428.out, L429.out, L430.out⟩) ?_ ?_
    rotate_left
    ·simp only [pS, pN, sB, sZ, sS, i64_w, i32_w]; rfl
    refine pure_ (i := 8) (N := some 21) (v := ?_) (a' := ?_) (ba 33 2487491071) rfl rfl (any_of HT_.out (by kernel_rfl)) (fun _ _ _ h => hP _ _ _ _ _ h) (Or.inl ⟨by rfl, ?_⟩) ?_ ?_
    rotate_left
    ·intro w'; go_simp; with_reducible rfl
    rotate_left
    ·simp only [pS, pN, sB, sZ, sS, i64_w, i32_w]; rfl
    refine pure_ (i := 9) (N := some 22) (v := ?_) (a' := ?_) (ba 33 2487491583) rfl rfl (any_of HT_.out (by kernel_rfl)) (fun _ _ _ h => hP _ _ _ _ _ h) (Or.inl ⟨by rfl, ?_⟩) ?_ ?_
    rotate_left
    ·intro w'; go_simp; with_reducible rfl
    rotate_left
    ·simp only [pS, pN, sB, sZ, sS, i64_w, i32_w]; rfl
    refine take_ (i := 10) (N := some 23) (v := ?_) (a' := ?_) (ba 33 2487492607) rfl rfl (take_ofW HT_.out HW_.out (by kernel_rfl)) (fun _ _ _ h => hP _ _ _ _ _ h) (Or.inl ⟨by rfl, ?_⟩) (⟨HB428.out, L429.out, L430.out⟩) ?_ ?_
    rotate_left
    ·intro w' hS
     have hl_ := hS.2.1
     go_simp
     with_reducible rfl
    rotate_left
    ·simp only [pS, pN, sB, sZ, sS, i64_w, i32_w]; rfl
    refine quiet_ (i := 13) (N := some 26) (a' := ?_) (ba 33 2487500799) rfl rfl (take_ofW HT_.out HW_.out (by kernel_rfl)) (fun _ _ _ h => hP _ _ _ _ _ h) (quiet_call Try.func22 (by kernel_rfl) rfl #[.slice A0 l0.length c0, .int .i64 1] (by rfl) rfl (by (try simp only [List.map_toArray, List.map_cons, List.map_nil]); first | done | rfl) (fun w' hS => g_quiet _ _ l0 1 t1 w' (Kd.C_below HR.out (hS.1)) HC.out H1.out)) (⟨HB428.out, L429.out, L430.out⟩) ?_ ?_
    rotate_left
    ·simp only [pS, pN, sB, sZ, sS, i64_w, i32_w]; rfl
    refine pure_ (i := 14) (N := some 27) (v := ?_) (a' := ?_) (ba 33 2487517183) rfl rfl (any_of HT_.out (by kernel_rfl)) (fun _ _ _ h => hP _ _ _ _ _ h) (Or.inl ⟨by rfl, ?_⟩) ?_ ?_
    rotate_left
    ·intro w'; go_simp; with_reducible rfl
    rotate_left
    ·simp only [pS, pN, sB, sZ, sS, i64_w, i32_w]; rfl
    refine pure_ (i := 15) (N := some 28) (v := ?_) (a' := ?_) (ba 33 2487549951) rfl rfl (any_of HT_.out (by kernel_rfl)) (fun _ _ _ h => hP _ _ _ _ _ h) (Or.inl ⟨by rfl, ?_⟩) ?_ ?_
    rotate_left
    ·intro w'; go_simp; with_reducible rfl
    rotate_left
    ·simp only [pS, pN, sB, sZ, sS, i64_w, i32_w]; rfl
    refine pure_ (i := 16) (N := some 29) (v := ?_) (a' := ?_) (ba 33 2487615487) rfl rfl (any_of HT_.out (by kernel_rfl)) (fun _ _ _ h => hP _ _ _ _ _ h) (Or.inl ⟨by rfl, ?_⟩) ?_ ?_
    rotate_left
    ·intro w'; go_simp; with_reducible rfl
    rotate_left
    ·simp only [pS, pN, sB, sZ, sS, i64_w, i32_w]; rfl
    refine take_ (i := 17) (N := some 30) (v := ?_) (a' := ?_) (ba 33 2487746559) rfl rfl (take_ofW HT_.out HW_.out (by kernel_rfl)) (fun _ _ _ h => hP _ _ _ _ _ h) (Or.inl ⟨by rfl, ?_⟩) (⟨HB428.out, L429.out, L430.out⟩) ?_ ?_
    rotate_left
    ·intro w' hS
     have hl_ := hS.2.2
     go_simp
     with_reducible rfl
    rotate_left
    ·simp only [pS, pN, sB, sZ, sS, i64_w, i32_w]; rfl
    refine quiet_ (i := 19) (N := some 32) (a' := ?_) (ba 33 2488270847) rfl rfl (take_ofW HT_.out HW_.out (by kernel_rfl)) (fun _ _ _ h => hP _ _ _ _ _ h) (quiet_call Try.func22 (by kernel_rfl) rfl #[.slice A0 l0.length c0, .int .i64 2] (by rfl) rfl (by (try simp only [List.map_toArray, List.map_cons, List.map_nil]); first | done | rfl) (fun w' hS => g_quiet _ _ l0 2 t2 w' (Kd.C_below HR.out (hS.1)) HC.out H2.out)) (⟨HB428.out, L429.out, L430.out⟩) ?_ ?_
    rotate_left
    ·simp only [pS, pN, sB, sZ, sS, i64_w, i32_w]; rfl
    refine pure_ (i := 20) (N := some 33) (v := ?_) (a' := ?_) (ba 33 2489319423) rfl rfl (any_of HT_.out (by kernel_rfl)) (fun _ _ _ h => hP _ _ _ _ _ h) (Or.inl ⟨by rfl, ?_⟩) ?_ ?_
    rotate_left
    ·intro w'; go_simp; with_reducible rfl
    rotate_left
    ·simp only [pS, pN, sB, sZ, sS, i64_w, i32_w]; rfl
    refine pure_ (i := 21) (N := some 34) (v := ?_) (a' := ?_) (ba 33 2491416575) rfl rfl (any_of HT_.out (by kernel_rfl)) (fun _ _ _ h => hP _ _ _ _ _ h) (Or.inl ⟨by rfl, ?_⟩) ?_ ?_
    rotate_left
    ·intro w'; go_simp; with_reducible rfl
    rotate_left
    ·simp only [pS, pN, sB, sZ, sS, i64_w, i32_w]; rfl
    refine quiet_ (i := 23) (N := some 36) (a' := ?_) (ba 33 2499805183) rfl rfl (take_ofW HT_.out HW_.out (by kernel_rfl)) (fun _ _ _ h => hP _ _ _ _ _ h) (quiet_call Try.func22 (by kernel_rfl) rfl #[.slice A0 l0.length c0, .int .i64 3] (by rfl) rfl (by (try simp only [List.map_toArray, List.map_cons, List.map_nil]); first | done | rfl) (fun w' hS => g_quiet _ _ l0 3 t3 w' (Kd.C_below HR.out (hS.1)) HC.out H3.out)) (⟨HB428.out, L429.out, L430.out⟩) ?_ ?_
    rotate_left
    ·simp only [pS, pN, sB, sZ, sS, i64_w, i32_w]; rfl
    refine pure_ (i := 24) (N := some 37) (v := ?_) (a' := ?_) (ba 33 2516582399) rfl rfl (any_of HT_.out (by kernel_rfl)) (fun _ _ _ h => hP _ _ _ _ _ h) (Or.inl ⟨by rfl, ?_⟩) ?_ ?_
    rotate_left
    ·intro w'; go_simp; with_reducible rfl
    rotate_left
    ·simp only [pS, pN, sB, sZ, sS, i64_w, i32_w]; rfl
    refine pure_ (i := 25) (N := some 38) (v := ?_) (a' := ?_) (ba 33 2550136831) rfl rfl (any_of HT_.out (by kernel_rfl)) (fun _ _ _ h => hP _ _ _ _ _ h) (Or.inl ⟨by rfl, ?_⟩) ?_ ?_
    rotate_left
    ·intro w'; go_simp; with_reducible rfl
    rotate_left
    ·simp only [pS, pN, sB, sZ, sS, i64_w, i32_w]; rfl
    refine quiet_ (i := 27) (N := some 40) (a' := ?_) (ba 33 2684354559) rfl rfl (take_ofW HT_.out HW_.out (by kernel_rfl)) (fun _ _ _ h => hP _ _ _ _ _ h) (quiet_call Try.func22 (by kernel_rfl) rfl #[.slice A0 l0.length c0, .int .i64 4] (by rfl) rfl (by (try simp only [List.map_toArray, List.map_cons, List.map_nil]); first | done | rfl) (fun w' hS => g_quiet _ _ l0 4 t4 w' (Kd.C_below HR.out (hS.1)) HC.out H4.out)) (⟨HB428.out, L429.out, L430.out⟩) ?_ ?_
    rotate_left
    ·simp only [pS, pN, sB, sZ, sS, i64_w, i32_w]; rfl
    refine pure_ (i := 29) (N := some 42) (v := ?_) (a' := ?_) (ba 33 3221225471) rfl rfl (any_of HT_.out (by kernel_rfl)) (fun _ _ _ h => hP _ _ _ _ _ h) (Or.inl ⟨by rfl, ?_⟩) ?_ ?_
    rotate_left
    ·intro w'; go_simp; with_reducible rfl
    rotate_left
    ·simp only [pS, pN, sB, sZ, sS, i64_w, i32_w]; rfl
    refine pure_ (i := 30) (N := some 43) (v := ?_) (a' := ?_) (ba 33 4294967295) rfl rfl (any_of HT_.out (by kernel_rfl)) (fun _ _ _ h => hP _ _ _ _ _ h) (Or.inl ⟨by rfl, ?_⟩) ?_ ?_
    rotate_left
    ·intro w'; go_simp; with_reducible rfl
    rotate_left
    ·simp only [pS, pN, sB, sZ, sS, i64_w, i32_w]; rfl
    refine one_ (i := 32) (N := none) (ba 33 8589934591) rfl rfl (one_of HT_.out (by kernel_rfl)) (by decide) (fun K hK => ?_)
    rw [if_pos (by rfl)]
    refine wp_store_row 46 _ _ rfl (w0.heap.size) (vR a1 a3 t2 t3 t4 tx s1 s2) rfl rfl 46 #[.int .i64 0, .string ⟨#[]⟩, .string ⟨#[]⟩, .string ⟨#[]⟩, .int .i64 0, .int .i64 0, .int .i64 0, .slice none 0 0, .slice none 0 0, .string ⟨#[]⟩] X431.out size46 rfl (one46 _ _ _ _ _ _ _ _) ?_
    have HB432 := Aside0.mk (below_setRow HB428.out GX361.out (vR a1 a3 t2 t3 t4 tx s1 s2))
    have HF_ := Aside0.mk (setRow_heap _ _ _ (vR a1 a3 t2 t3 t4 tx s1 s2) _ _ X431.out)
    have L433 := Aside0.mk ((cell_setRow_other _ _ (vR a1 a3 t2 t3 t4 tx s1 s2) _ NE403.out.symm).trans L429.out)
    have L434 := Aside0.mk ((cell_setRow_other _ _ (vR a1 a3 t2 t3 t4 tx s1 s2) _ NE425.out.symm).trans L430.out)
    refine hK.out _ _ (⟨HB432.out, L433.out, L434.out⟩) (fun _ => ?_)
    clear hK K
    refine done_ (done_of HT_.out (by kernel_rfl)) ?_
    exact HQ.out _ _ _ _ _ _ _ _ _ _ _ _ _ _ _ _ _ _ _ _ _ _ _ _ _ _ _ _ _ _ _ (w0.heap.size) _ GX361.out HB432.out HF_.out
  ·skip
   refine value_ (w1 := ?_) (v := ?_) (by rfl) rfl ?_ ?_
   rotate_left 2
   ·go_simp
    constructor
    ·rfl
    ·rfl
   have hb435 := Aside0.mk ((Below.refl _ w360).alloc (Nat.le_refl _) (.cells #[.string ⟨#[]⟩, .string (⟨#[97, 61, 49]⟩ : ByteArray), .string (⟨#[97, 61, 49, 44, 98, 61, 50]⟩ : ByteArray)] 9))
   have HB436 := Aside0.mk (below_step HB358.out hb435.out)
   have L437 := Aside0.mk (HLB.out w360)
   have X439 := Aside0.mk ((hb435.out.block _ (Array.getElem?_eq_some_iff.1 X359.out).1).trans X359.out)
   generalize hW_ : w360.alloc (.cells #[.string ⟨#[]⟩, .string (⟨#[97, 61, 49]⟩ : ByteArray), .string (⟨#[97, 61, 49, 44, 98, 61, 50]⟩ : ByteArray)] 9) = w438 at *
   clear hW_
   have NE440 := Aside0.mk (Nat.ne_of_lt (Array.getElem?_eq_some_iff.1 X359.out).1)
   refine hK.out _ _ (HB436.out) (fun _ => ?_)
   clear hK K
   refine norm_ (a' := ?_) ?_ ?_
   rotate_left
   ·show Act.put _ (some 24) _ = _
    simp only [pS, pN, sB, sZ, sS]
    rfl
   refine restart_ (S2 := fun w' => Below w.heap.size w w' ∧ w'.cell? ⟨w360.heap.size, n2, none⟩ = some (.string s2)) (fun w' h => h.1) (⟨HB436.out, L437.out⟩) ?_
   refine two_ (i := 3) (j := 5) (Ni := some 16) (Nj := some 18) (ba 33 2487490639) (ba 33 2487490663) rfl rfl rfl rfl (two_of HT_.out (by kernel_rfl)) (by decide) (by decide) (fun K hK => ?_) (fun K hK => ?_)
   ·skip
    refine goes_ Try.func35 (by kernel_rfl) rfl #[.int .i64 t0, .int .i64 19] (by rfl) rfl rfl (by (try simp only [List.map_toArray, List.map_cons, List.map_nil]); first | done | rfl) ?_
    with_reducible refine (roadsteadlaw10_text.calls k t0 19 tx _ HX.out).mono ?_
    rintro e w441 ⟨rfl, hb0_⟩
    refine ⟨_, rfl, ?_⟩
    have hb442 := Aside0.mk hb0_
    clear hb0_
    have HB443 := Aside0.mk (below_step HB436.out hb442.out)
    have L444 := Aside0.mk ((hb442.out.cell (p := ⟨w360.heap.size, n2, none⟩) (block_lt_of_cell L437.out)).trans L437.out)
    have X445 := Aside0.mk ((hb442.out.block _ (Array.getElem?_eq_some_iff.1 X439.out).1).trans X439.out)
    refine hK.out _ _ (⟨HB443.out, L444.out⟩) (fun _ => ?_)
    clear hK K
    refine norm_ (a' := ?_) ?_ ?_
    rotate_left
    ·show Act.put _ (some 16) _ = _
     simp only [pS, pN, sB, sZ, sS]
     rfl
    refine pure_ (i := 4) (N := some 17) (v := ?_) (a' := ?_) (ba 33 2487490655) rfl rfl (any_of HT_.out (by kernel_rfl)) (fun _ _ _ h => hP _ _ _ _ _ h) (Or.inl ⟨by rfl, ?_⟩) ?_ ?_
    rotate_left
    ·intro w'; go_simp; with_reducible rfl
    rotate_left
    ·simp only [pS, pN, sB, sZ, sS, i64_w, i32_w]; rfl
    refine quiet_ (i := 7) (N := some 20) (a' := ?_) (ba 33 2487490783) rfl rfl (take_ofW HT_.out HW_.out (by kernel_rfl)) (fun _ _ _ h => hP _ _ _ _ _ h) (quiet_call Try.func22 (by kernel_rfl) rfl #[.slice A0 l0.length c0, .int .i64 1] (by rfl) rfl (by (try simp only [List.map_toArray, List.map_cons, List.map_nil]); first | done | rfl) (fun w' hS => g_quiet _ _ l0 1 t1 w' (Kd.C_below HR.out (hS.1)) HC.out H1.out)) (⟨HB443.out, L444.out⟩) ?_ ?_
    rotate_left
    ·simp only [pS, pN, sB, sZ, sS, i64_w, i32_w]; rfl
    refine pure_ (i := 8) (N := some 21) (v := ?_) (a' := ?_) (ba 33 2487491039) rfl rfl (any_of HT_.out (by kernel_rfl)) (fun _ _ _ h => hP _ _ _ _ _ h) (Or.inl ⟨by rfl, ?_⟩) ?_ ?_
    rotate_left
    ·intro w'; go_simp; with_reducible rfl
    rotate_left
    ·simp only [pS, pN, sB, sZ, sS, i64_w, i32_w]; rfl
    refine quiet_ (i := 13) (N := some 26) (a' := ?_) (ba 33 2487499231) rfl rfl (take_ofW HT_.out HW_.out (by kernel_rfl)) (fun _ _ _ h => hP _ _ _ _ _ h) (quiet_call Try.func22 (by kernel_rfl) rfl #[.slice A0 l0.length c0, .int .i64 1] (by rfl) rfl (by (try simp only [List.map_toArray, List.map_cons, List.map_nil]); first | done | rfl) (fun w' hS => g_quiet _ _ l0 1 t1 w' (Kd.C_below HR.out (hS.1)) HC.out H1.out)) (⟨HB443.out, L444.out⟩) ?_ ?_
    rotate_left
    ·simp only [pS, pN, sB, sZ, sS, i64_w, i32_w]; rfl
    refine pure_ (i := 14) (N := some 27) (v := ?_) (a' := ?_) (ba 33 2487515615) rfl rfl (any_of HT_.out (by kernel_rfl)) (fun _ _ _ h => hP _ _ _ _ _ h) (Or.inl ⟨by rfl, ?_⟩) ?_ ?_
    rotate_left
    ·intro w'; go_simp; with_reducible rfl
    rotate_left
    ·simp only [pS, pN, sB, sZ, sS, i64_w, i32_w]; rfl
    refine pure_ (i := 15) (N := some 28) (v := ?_) (a' := ?_) (ba 33 2487548383) rfl rfl (any_of HT_.out (by kernel_rfl)) (fun _ _ _ h => hP _ _ _ _ _ h) (Or.inl ⟨by rfl, ?_⟩) ?_ ?_
    rotate_left
    ·intro w'; go_simp; with_reducible rfl
    rotate_left
    ·simp only [pS, pN, sB, sZ, sS, i64_w, i32_w]; rfl
    refine pure_ (i := 16) (N := some 29) (v := ?_) (a' := ?_) (ba 33 2487613919) rfl rfl (any_of HT_.out (by kernel_rfl)) (fun _ _ _ h => hP _ _ _ _ _ h) (Or.inl ⟨by rfl, ?_⟩) ?_ ?_
    rotate_left
    ·intro w'; go_simp; with_reducible rfl
    rotate_left
    ·simp only [pS, pN, sB, sZ, sS, i64_w, i32_w]; rfl
    refine take_ (i := 17) (N := some 30) (v := ?_) (a' := ?_) (ba 33 2487744991) rfl rfl (take_ofW HT_.out HW_.out (by kernel_rfl)) (fun _ _ _ h => hP _ _ _ _ _ h) (Or.inl ⟨by rfl, ?_⟩) (⟨HB443.out, L444.out⟩) ?_ ?_
    rotate_left
    ·intro w' hS
     have hl_ := hS.2
     go_simp
     with_reducible rfl
    rotate_left
    ·simp only [pS, pN, sB, sZ, sS, i64_w, i32_w]; rfl
    refine quiet_ (i := 19) (N := some 32) (a' := ?_) (ba 33 2488269279) rfl rfl (take_ofW HT_.out HW_.out (by kernel_rfl)) (fun _ _ _ h => hP _ _ _ _ _ h) (quiet_call Try.func22 (by kernel_rfl) rfl #[.slice A0 l0.length c0, .int .i64 2] (by rfl) rfl (by (try simp only [List.map_toArray, List.map_cons, List.map_nil]); first | done | rfl) (fun w' hS => g_quiet _ _ l0 2 t2 w' (Kd.C_below HR.out (hS.1)) HC.out H2.out)) (⟨HB443.out, L444.out⟩) ?_ ?_
    rotate_left
    ·simp only [pS, pN, sB, sZ, sS, i64_w, i32_w]; rfl
    refine pure_ (i := 20) (N := some 33) (v := ?_) (a' := ?_) (ba 33 2489317855) rfl rfl (any_of HT_.out (by kernel_rfl)) (fun _ _ _ h => hP _ _ _ _ _ h) (Or.inl ⟨by rfl, ?_⟩) ?_ ?_
    rotate_left
    ·intro w'; go_simp; with_reducible rfl
    rotate_left
    ·simp only [pS, pN, sB, sZ, sS, i64_w, i32_w]; rfl
    refine pure_ (i := 21) (N := some 34) (v := ?_) (a' := ?_) (ba 33 2491415007) rfl rfl (any_of HT_.out (by kernel_rfl)) (fun _ _ _ h => hP _ _ _ _ _ h) (Or.inl ⟨by rfl, ?_⟩) ?_ ?_
    rotate_left
    ·intro w'; go_simp; with_reducible rfl
    rotate_left
    ·simp only [pS, pN, sB, sZ, sS, i64_w, i32_w]; rfl
    refine quiet_ (i := 23) (N := some 36) (a' := ?_) (ba 33 2499803615) rfl rfl (take_ofW HT_.out HW_.out (by kernel_rfl)) (fun _ _ _ h => hP _ _ _ _ _ h) (quiet_call Try.func22 (by kernel_rfl) rfl #[.slice A0 l0.length c0, .int .i64 3] (by rfl) rfl (by (try simp only [List.map_toArray, List.map_cons, List.map_nil]); first | done | rfl) (fun w' hS => g_quiet _ _ l0 3 t3 w' (Kd.C_below HR.out (hS.1)) HC.out H3.out)) (⟨HB443.out, L444.out⟩) ?_ ?_
    rotate_left
    ·simp only [pS, pN, sB, sZ, sS, i64_w, i32_w]; rfl
    refine pure_ (i := 24) (N := some 37) (v := ?_) (a' := ?_) (ba 33 2516580831) rfl rfl (any_of HT_.out (by kernel_rfl)) (fun _ _ _ h => hP _ _ _ _ _ h) (Or.inl ⟨by rfl, ?_⟩) ?_ ?_
    rotate_left
    ·intro w'; go_simp; with_reducible rfl
    rotate_left
    ·simp only [pS, pN, sB, sZ, sS, i64_w, i32_w]; rfl
    refine pure_ (i := 25) (N := some 38) (v := ?_) (a' := ?_) (ba 33 2550135263) rfl rfl (any_of HT_.out (by kernel_rfl)) (fun _ _ _ h => hP _ _ _ _ _ h) (Or.inl ⟨by rfl, ?_⟩) ?_ ?_
    rotate_left
    ·intro w'; go_simp; with_reducible rfl
    rotate_left
    ·simp only [pS, pN, sB, sZ, sS, i64_w, i32_w]; rfl
    refine quiet_ (i := 27) (N := some 40) (a' := ?_) (ba 33 2684352991) rfl rfl (take_ofW HT_.out HW_.out (by kernel_rfl)) (fun _ _ _ h => hP _ _ _ _ _ h) (quiet_call Try.func22 (by kernel_rfl) rfl #[.slice A0 l0.length c0, .int .i64 4] (by rfl) rfl (by (try simp only [List.map_toArray, List.map_cons, List.map_nil]); first | done | rfl) (fun w' hS => g_quiet _ _ l0 4 t4 w' (Kd.C_below HR.out (hS.1)) HC.out H4.out)) (⟨HB443.out, L444.out⟩) ?_ ?_
    rotate_left
    ·simp only [pS, pN, sB, sZ, sS, i64_w, i32_w]; rfl
    refine pure_ (i := 29) (N := some 42) (v := ?_) (a' := ?_) (ba 33 3221223903) rfl rfl (any_of HT_.out (by kernel_rfl)) (fun _ _ _ h => hP _ _ _ _ _ h) (Or.inl ⟨by rfl, ?_⟩) ?_ ?_
    rotate_left
    ·intro w'; go_simp; with_reducible rfl
    rotate_left
    ·simp only [pS, pN, sB, sZ, sS, i64_w, i32_w]; rfl
    refine one_ (i := 5) (N := some 18) (ba 33 3221223935) rfl rfl (one_of HT_.out (by kernel_rfl)) (by decide) (fun K hK => ?_)
    refine value_ (w1 := ?_) (v := ?_) (by rfl) rfl ?_ ?_
    rotate_left 2
    ·go_simp
     constructor
     ·rfl
     ·rfl
    have hb446 := Aside0.mk ((Below.refl _ w441).alloc (Nat.le_refl _) (.cells #[.string (⟨#[35]⟩ : ByteArray), .string (⟨#[97]⟩ : ByteArray), .string (⟨#[97, 47, 43]⟩ : ByteArray), .string (⟨#[98, 47, 35]⟩ : ByteArray)] 9))
    have HB447 := Aside0.mk (below_step HB443.out hb446.out)
    have L448 := Aside0.mk (HLA.out w441)
    have L450 := Aside0.mk ((hb446.out.cell (p := ⟨w360.heap.size, n2, none⟩) (block_lt_of_cell L444.out)).trans L444.out)
    have X451 := Aside0.mk ((hb446.out.block _ (Array.getElem?_eq_some_iff.1 X445.out).1).trans X445.out)
    generalize hW_ : w441.alloc (.cells #[.string (⟨#[35]⟩ : ByteArray), .string (⟨#[97]⟩ : ByteArray), .string (⟨#[97, 47, 43]⟩ : ByteArray), .string (⟨#[98, 47, 35]⟩ : ByteArray)] 9) = w449 at *
    clear hW_
    have NE452 := Aside0.mk (Nat.ne_of_lt (Array.getElem?_eq_some_iff.1 X445.out).1)
    refine hK.out _ _ (⟨HB447.out, L450.out⟩) (fun _ => ?_)
    clear hK K
    refine norm_ (a' := ?_) ?_ ?_
    rotate_left
    ·show Act.put _ (some 18) _ = _
     simp only [pS, pN, sB, sZ, sS]
     rfl
    refine restart_ (S2 := fun w' => Below w.heap.size w w' ∧ w'.cell? ⟨w360.heap.size, n2, none⟩ = some (.string s2) ∧ w'.cell? ⟨w441.heap.size, n1, none⟩ = some (.string s1)) (fun w' h => ⟨h.1, h.2.1⟩) (⟨HB447.out, L450.out, L448.out⟩) ?_
    refine pure_ (i := 9) (N := some 22) (v := ?_) (a' := ?_) (ba 33 3221224447) rfl rfl (any_of HT_.out (by kernel_rfl)) (fun _ _ _ h => hP _ _ _ _ _ h) (Or.inl ⟨by rfl, ?_⟩) ?_ ?_
    rotate_left
    ·intro w'; go_simp; with_reducible rfl
    rotate_left
    ·simp only [pS, pN, sB, sZ, sS, i64_w, i32_w]; rfl
    refine take_ (i := 10) (N := some 23) (v := ?_) (a' := ?_) (ba 33 3221225471) rfl rfl (take_ofW HT_.out HW_.out (by kernel_rfl)) (fun _ _ _ h => hP _ _ _ _ _ h) (Or.inl ⟨by rfl, ?_⟩) (⟨HB447.out, L450.out, L448.out⟩) ?_ ?_
    rotate_left
    ·intro w' hS
     have hl_ := hS.2.2
     go_simp
     with_reducible rfl
    rotate_left
    ·simp only [pS, pN, sB, sZ, sS, i64_w, i32_w]; rfl
    refine pure_ (i := 30) (N := some 43) (v := ?_) (a' := ?_) (ba 33 4294967295) rfl rfl (any_of HT_.out (by kernel_rfl)) (fun _ _ _ h => hP _ _ _ _ _ h) (Or.inl ⟨by rfl, ?_⟩) ?_ ?_
    rotate_left
    ·intro w'; go_simp; with_reducible rfl
    rotate_left
    ·simp only [pS, pN, sB, sZ, sS, i64_w, i32_w]; rfl
    refine one_ (i := 32) (N := none) (ba 33 8589934591) rfl rfl (one_of HT_.out (by kernel_rfl)) (by decide) (fun K hK => ?_)
    rw [if_pos (by rfl)]
    refine wp_store_row 46 _ _ rfl (w0.heap.size) (vR a1 a3 t2 t3 t4 tx s1 s2) rfl rfl 46 #[.int .i64 0, .string ⟨#[]⟩, .string ⟨#[]⟩, .string ⟨#[]⟩, .int .i64 0, .int .i64 0, .int .i64 0, .slice none 0 0, .slice none 0 0, .string ⟨#[]⟩] X451.out size46 rfl (one46 _ _ _ _ _ _ _ _) ?_
    have HB453 := Aside0.mk (below_setRow HB447.out GX361.out (vR a1 a3 t2 t3 t4 tx s1 s2))
    have HF_ := Aside0.mk (setRow_heap _ _ _ (vR a1 a3 t2 t3 t4 tx s1 s2) _ _ X451.out)
    have L454 := Aside0.mk ((cell_setRow_other _ _ (vR a1 a3 t2 t3 t4 tx s1 s2) _ NE440.out.symm).trans L450.out)
    have L455 := Aside0.mk ((cell_setRow_other _ _ (vR a1 a3 t2 t3 t4 tx s1 s2) _ NE452.out.symm).trans L448.out)
    refine hK.out _ _ (⟨HB453.out, L454.out, L455.out⟩) (fun _ => ?_)
    clear hK K
    refine done_ (done_of HT_.out (by kernel_rfl)) ?_
    exact HQ.out _ _ _ _ _ _ _ _ _ _ _ _ _ _ _ _ _ _ _ _ _ _ _ _ _ _ _ _ _ _ _ (w0.heap.size) _ GX361.out HB453.out HF_.out
   ·skip
    refine value_ (w1 := ?_) (v := ?_) (by rfl) rfl ?_ ?_
    rotate_left 2
    ·go_simp
     constructor
     ·rfl
     ·rfl
    have hb456 := Aside0.mk ((Below.refl _ w438).alloc (Nat.le_refl _) (.cells #[.string (⟨#[35]⟩ : ByteArray), .string (⟨#[97]⟩ : ByteArray), .string (⟨#[97, 47, 43]⟩ : ByteArray), .string (⟨#[98, 47, 35]⟩ : ByteArray)] 9))
    have HB457 := Aside0.mk (below_step HB436.out hb456.out)
    have L458 := Aside0.mk (HLA.out w438)
    have L460 := Aside0.mk ((hb456.out.cell (p := ⟨w360.heap.size, n2, none⟩) (block_lt_of_cell L437.out)).trans L437.out)
    have X461 := Aside0.mk ((hb456.out.block _ (Array.getElem?_eq_some_iff.1 X439.out).1).trans X439.out)
    generalize hW_ : w438.alloc (.cells #[.string (⟨#[35]⟩ : ByteArray), .string (⟨#[97]⟩ : ByteArray), .string (⟨#[97, 47, 43]⟩ : ByteArray), .string (⟨#[98, 47, 35]⟩ : ByteArray)] 9) = w459 at *
    clear hW_
    have NE462 := Aside0.mk (Nat.ne_of_lt (Array.getElem?_eq_some_iff.1 X439.out).1)
    refine hK.out _ _ (⟨HB457.out, L460.out⟩) (fun _ => ?_)
    clear hK K
    refine norm_ (a' := ?_) ?_ ?_
    rotate_left
    ·show Act.put _ (some 18) _ = _
     simp only [pS, pN, sB, sZ, sS]
     rfl
    refine restart_ (S2 := fun w' => Below w.heap.size w w' ∧ w'.cell? ⟨w360.heap.size, n2, none⟩ = some (.string s2) ∧ w'.cell? ⟨w438.heap.size, n1, none⟩ = some (.string s1)) (fun w' h => ⟨h.1, h.2.1⟩) (⟨HB457.out, L460.out, L458.out⟩) ?_
    refine one_ (i := 3) (N := some 16) (ba 33 2487490671) rfl rfl (one_of HT_.out (by kernel_rfl)) (by decide) (fun K hK => ?_)
    refine goes_ Try.func35 (by kernel_rfl) rfl #[.int .i64 t0, .int .i64 19] (by rfl) rfl rfl (by (try simp only [List.map_toArray, List.map_cons, List.map_nil]); first | done | rfl) ?_
    with_reducible refine (roadsteadlaw10_text.calls k t0 19 tx _ HX.out).mono ?_
    rintro e w463 ⟨rfl, hb0_⟩
    refine ⟨_, rfl, ?_⟩
    have hb464 := Aside0.mk hb0_
    clear hb0_
    have HB465 := Aside0.mk (below_step HB457.out hb464.out)
    have L466 := Aside0.mk ((hb464.out.cell (p := ⟨w360.heap.size, n2, none⟩) (block_lt_of_cell L460.out)).trans L460.out)
    have L467 := Aside0.mk ((hb464.out.cell (p := ⟨w438.heap.size, n1, none⟩) (block_lt_of_cell L458.out)).trans L458.out)
    have X468 := Aside0.mk ((hb464.out.block _ (Array.getElem?_eq_some_iff.1 X461.out).1).trans X461.out)
    refine hK.out _ _ (⟨HB465.out, L466.out, L467.out⟩) (fun _ => ?_)
    clear hK K
    refine norm_ (a' := ?_) ?_ ?_
    rotate_left
    ·show Act.put _ (some 16) _ = _
     simp only [pS, pN, sB, sZ, sS]
     rfl
    refine pure_ (i := 4) (N := some 17) (v := ?_) (a' := ?_) (ba 33 2487490687) rfl rfl (any_of HT_.out (by kernel_rfl)) (fun _ _ _ h => hP _ _ _ _ _ h) (Or.inl ⟨by rfl, ?_⟩) ?_ ?_
    rotate_left
    ·intro w'; go_simp; with_reducible rfl
    rotate_left
    ·simp only [pS, pN, sB, sZ, sS, i64_w, i32_w]; rfl
    refine quiet_ (i := 7) (N := some 20) (a' := ?_) (ba 33 2487490815) rfl rfl (take_ofW HT_.out HW_.out (by kernel_rfl)) (fun _ _ _ h => hP _ _ _ _ _ h) (quiet_call Try.func22 (by kernel_rfl) rfl #[.slice A0 l0.length c0, .int .i64 1] (by rfl) rfl (by (try simp only [List.map_toArray, List.map_cons, List.map_nil]); first | done | rfl) (fun w' hS => g_quiet _ _ l0 1 t1 w' (Kd.C_below HR.out (hS.1)) HC.out H1.out)) (⟨HB465.out, L466.out, L467.out⟩) ?_ ?_
    rotate_left
    ·simp only [pS, pN, sB, sZ, sS, i64_w, i32_w]; rfl
    refine pure_ (i := 8) (N := some 21) (v := ?_) (a' := ?_) (ba 33 2487491071) rfl rfl (any_of HT_.out (by kernel_rfl)) (fun _ _ _ h => hP _ _ _ _ _ h) (Or.inl ⟨by rfl, ?_⟩) ?_ ?_
    rotate_left
    ·intro w'; go_simp; with_reducible rfl
    rotate_left
    ·simp only [pS, pN, sB, sZ, sS, i64_w, i32_w]; rfl
    refine pure_ (i := 9) (N := some 22) (v := ?_) (a' := ?_) (ba 33 2487491583) rfl rfl (any_of HT_.out (by kernel_rfl)) (fun _ _ _ h => hP _ _ _ _ _ h) (Or.inl ⟨by rfl, ?_⟩) ?_ ?_
    rotate_left
    ·intro w'; go_simp; with_reducible rfl
    rotate_left
    ·simp only [pS, pN, sB, sZ, sS, i64_w, i32_w]; rfl
    refine take_ (i := 10) (N := some 23) (v := ?_) (a' := ?_) (ba 33 2487492607) rfl rfl (take_ofW HT_.out HW_.out (by kernel_rfl)) (fun _ _ _ h => hP _ _ _ _ _ h) (Or.inl ⟨by rfl, ?_⟩) (⟨HB465.out, L466.out, L467.out⟩) ?_ ?_
    rotate_left
    ·intro w' hS
     have hl_ := hS.2.2
     go_simp
     with_reducible rfl
    rotate_left
    ·simp only [pS, pN, sB, sZ, sS, i64_w, i32_w]; rfl
    refine quiet_ (i := 13) (N := some 26) (a' := ?_) (ba 33 2487500799) rfl rfl (take_ofW HT_.out HW_.out (by kernel_rfl)) (fun _ _ _ h => hP _ _ _ _ _ h) (quiet_call Try.func22 (by kernel_rfl) rfl #[.slice A0 l0.length c0, .int .i64 1] (by rfl) rfl (by (try simp only [List.map_toArray, List.map_cons, List.map_nil]); first | done | rfl) (fun w' hS => g_quiet _ _ l0 1 t1 w' (Kd.C_below HR.out (hS.1)) HC.out H1.out)) (⟨HB465.out, L466.out, L467.out⟩) ?_ ?_
    rotate_left
    ·simp only [pS, pN, sB, sZ, sS, i64_w, i32_w]; rfl
    refine pure_ (i := 14) (N := some 27) (v := ?_) (a' := ?_) (ba 33 2487517183) rfl rfl (any_of HT_.out (by kernel_rfl)) (fun _ _ _ h => hP _ _ _ _ _ h) (Or.inl ⟨by rfl, ?_⟩) ?_ ?_
    rotate_left
    ·intro w'; go_simp; with_reducible rfl
    rotate_left
    ·simp only [pS, pN, sB, sZ, sS, i64_w, i32_w]; rfl
    refine pure_ (i := 15) (N := some 28) (v := ?_) (a' := ?_) (ba 33 2487549951) rfl rfl (any_of HT_.out (by kernel_rfl)) (fun _ _ _ h => hP _ _ _ _ _ h) (Or.inl ⟨by rfl, ?_⟩) ?_ ?_
    rotate_left
    ·intro w'; go_simp; with_reducible rfl
    rotate_left
    ·simp only [pS, pN, sB, sZ, sS, i64_w, i32_w]; rfl
    refine pure_ (i := 16) (N := some 29) (v := ?_) (a' := ?_) (ba 33 2487615487) rfl rfl (any_of HT_.out (by kernel_rfl)) (fun _ _ _ h => hP _ _ _ _ _ h) (Or.inl ⟨by rfl, ?_⟩) ?_ ?_
    rotate_left
    ·intro w'; go_simp; with_reducible rfl
    rotate_left
    ·simp only [pS, pN, sB, sZ, sS, i64_w, i32_w]; rfl
    refine take_ (i := 17) (N := some 30) (v := ?_) (a' := ?_) (ba 33 2487746559) rfl rfl (take_ofW HT_.out HW_.out (by kernel_rfl)) (fun _ _ _ h => hP _ _ _ _ _ h) (Or.inl ⟨by rfl, ?_⟩) (⟨HB465.out, L466.out, L467.out⟩) ?_ ?_
    rotate_left
    ·intro w' hS
     have hl_ := hS.2.1
     go_simp
     with_reducible rfl
    rotate_left
    ·simp only [pS, pN, sB, sZ, sS, i64_w, i32_w]; rfl
    refine quiet_ (i := 19) (N := some 32) (a' := ?_) (ba 33 2488270847) rfl rfl (take_ofW HT_.out HW_.out (by kernel_rfl)) (fun _ _ _ h => hP _ _ _ _ _ h) (quiet_call Try.func22 (by kernel_rfl) rfl #[.slice A0 l0.length c0, .int .i64 2] (by rfl) rfl (by (try simp only [List.map_toArray, List.map_cons, List.map_nil]); first | done | rfl) (fun w' hS => g_quiet _ _ l0 2 t2 w' (Kd.C_below HR.out (hS.1)) HC.out H2.out)) (⟨HB465.out, L466.out, L467.out⟩) ?_ ?_
    rotate_left
    ·simp only [pS, pN, sB, sZ, sS, i64_w, i32_w]; rfl
    refine pure_ (i := 20) (N := some 33) (v := ?_) (a' := ?_) (ba 33 2489319423) rfl rfl (any_of HT_.out (by kernel_rfl)) (fun _ _ _ h => hP _ _ _ _ _ h) (Or.inl ⟨by rfl, ?_⟩) ?_ ?_
    rotate_left
    ·intro w'; go_simp; with_reducible rfl
    rotate_left
    ·simp only [pS, pN, sB, sZ, sS, i64_w, i32_w]; rfl
    refine pure_ (i := 21) (N := some 34) (v := ?_) (a' := ?_) (ba 33 2491416575) rfl rfl (any_of HT_.out (by kernel_rfl)) (fun _ _ _ h => hP _ _ _ _ _ h) (Or.inl ⟨by rfl, ?_⟩) ?_ ?_
    rotate_left
    ·intro w'; go_simp; with_reducible rfl
    rotate_left
    ·simp only [pS, pN, sB, sZ, sS, i64_w, i32_w]; rfl
    refine quiet_ (i := 23) (N := some 36) (a' := ?_) (ba 33 2499805183) rfl rfl (take_ofW HT_.out HW_.out (by kernel_rfl)) (fun _ _ _ h => hP _ _ _ _ _ h) (quiet_call Try.func22 (by kernel_rfl) rfl #[.slice A0 l0.length c0, .int .i64 3] (by rfl) rfl (by (try simp only [List.map_toArray, List.map_cons, List.map_nil]); first | done | rfl) (fun w' hS => g_quiet _ _ l0 3 t3 w' (Kd.C_below HR.out (hS.1)) HC.out H3.out)) (⟨HB465.out, L466.out, L467.out⟩) ?_ ?_
    rotate_left
    ·simp only [pS, pN, sB, sZ, sS, i64_w, i32_w]; rfl
    refine pure_ (i := 24) (N := some 37) (v := ?_) (a' := ?_) (ba 33 2516582399) rfl rfl (any_of HT_.out (by kernel_rfl)) (fun _ _ _ h => hP _ _ _ _ _ h) (Or.inl ⟨by rfl, ?_⟩) ?_ ?_
    rotate_left
    ·intro w'; go_simp; with_reducible rfl
    rotate_left
    ·simp only [pS, pN, sB, sZ, sS, i64_w, i32_w]; rfl
    refine pure_ (i := 25) (N := some 38) (v := ?_) (a' := ?_) (ba 33 2550136831) rfl rfl (any_of HT_.out (by kernel_rfl)) (fun _ _ _ h => hP _ _ _ _ _ h) (Or.inl ⟨by rfl, ?_⟩) ?_ ?_
    rotate_left
    ·intro w'; go_simp; with_reducible rfl
    rotate_left
    ·simp only [pS, pN, sB, sZ, sS, i64_w, i32_w]; rfl
    refine quiet_ (i := 27) (N := some 40) (a' := ?_) (ba 33 2684354559) rfl rfl (take_ofW HT_.out HW_.out (by kernel_rfl)) (fun _ _ _ h => hP _ _ _ _ _ h) (quiet_call Try.func22 (by kernel_rfl) rfl #[.slice A0 l0.length c0, .int .i64 4] (by rfl) rfl (by (try simp only [List.map_toArray, List.map_cons, List.map_nil]); first | done | rfl) (fun w' hS => g_quiet _ _ l0 4 t4 w' (Kd.C_below HR.out (hS.1)) HC.out H4.out)) (⟨HB465.out, L466.out, L467.out⟩) ?_ ?_
    rotate_left
    ·simp only [pS, pN, sB, sZ, sS, i64_w, i32_w]; rfl
    refine pure_ (i := 29) (N := some 42) (v := ?_) (a' := ?_) (ba 33 3221225471) rfl rfl (any_of HT_.out (by kernel_rfl)) (fun _ _ _ h => hP _ _ _ _ _ h) (Or.inl ⟨by rfl, ?_⟩) ?_ ?_
    rotate_left
    ·intro w'; go_simp; with_reducible rfl
    rotate_left
    ·simp only [pS, pN, sB, sZ, sS, i64_w, i32_w]; rfl
    refine pure_ (i := 30) (N := some 43) (v := ?_) (a' := ?_) (ba 33 4294967295) rfl rfl (any_of HT_.out (by kernel_rfl)) (fun _ _ _ h => hP _ _ _ _ _ h) (Or.inl ⟨by rfl, ?_⟩) ?_ ?_
    rotate_left
    ·intro w'; go_simp; with_reducible rfl
    rotate_left
    ·simp only [pS, pN, sB, sZ, sS, i64_w, i32_w]; rfl
    refine one_ (i := 32) (N := none) (ba 33 8589934591) rfl rfl (one_of HT_.out (by kernel_rfl)) (by decide) (fun K hK => ?_)
    rw [if_pos (by rfl)]
    refine wp_store_row 46 _ _ rfl (w0.heap.size) (vR a1 a3 t2 t3 t4 tx s1 s2) rfl rfl 46 #[.int .i64 0, .string ⟨#[]⟩, .string ⟨#[]⟩, .string ⟨#[]⟩, .int .i64 0, .int .i64 0, .int .i64 0, .slice none 0 0, .slice none 0 0, .string ⟨#[]⟩] X468.out size46 rfl (one46 _ _ _ _ _ _ _ _) ?_
    have HB469 := Aside0.mk (below_setRow HB465.out GX361.out (vR a1 a3 t2 t3 t4 tx s1 s2))
    have HF_ := Aside0.mk (setRow_heap _ _ _ (vR a1 a3 t2 t3 t4 tx s1 s2) _ _ X468.out)
    have L470 := Aside0.mk ((cell_setRow_other _ _ (vR a1 a3 t2 t3 t4 tx s1 s2) _ NE440.out.symm).trans L466.out)
    have L471 := Aside0.mk ((cell_setRow_other _ _ (vR a1 a3 t2 t3 t4 tx s1 s2) _ NE462.out.symm).trans L467.out)
    refine hK.out _ _ (⟨HB469.out, L470.out, L471.out⟩) (fun _ => ?_)
    clear hK K
    refine done_ (done_of HT_.out (by kernel_rfl)) ?_
    exact HQ.out _ _ _ _ _ _ _ _ _ _ _ _ _ _ _ _ _ _ _ _ _ _ _ _ _ _ _ _ _ _ _ (w0.heap.size) _ GX361.out HB469.out HF_.out
end Go.Proofs.Ytajfefjmfelnbaa
