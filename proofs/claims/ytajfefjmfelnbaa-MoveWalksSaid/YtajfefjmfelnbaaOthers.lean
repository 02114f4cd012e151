/- MoveOthers: the law's walk. -/
import Derived.Test.YtajfefjmfelnbaaMovePure
import Derived.Test.YtajfefjmfelnbaaKnown
import Derived.Test.YtajfefjmfelnbaaStateUse
import Derived.Test.YtajfefjmfelnbaaSubR
import Derived.OpenShut
namespace Go.Proofs.Ytajfefjmfelnbaa
open Go.RowKit Go.Proofs.YtajfefjmfelnbaaW.PrintWords Go.Proofs.YtajfefjmfelnbaaW.PrintLast Go.Proofs.YtajfefjmfelnbaaW.PrintMore BState Go.ChangeShapes Go.WideShapes
set_option linter.unusedVariables false
set_option linter.unusedSimpArgs false
def oth_T : Bool × List (List Nat × List Nat) := (true, [([], []), ([0], [0]), ([], []), ([2], [2]), ([], []), ([3, 4], [3, 4]), ([5], [5]), ([6], [6]), ([7], [7]), ([8], [8]), ([1, 9], [1, 9]), ([0, 1, 2, 3, 4, 5, 6, 7, 8, 9, 10], []), ([11, 10, 10, 0, 1, 2, 3, 4, 5, 6, 7, 8, 9, 10], [10, 11])])
def oth_B : List Nat := [0, 1, 0, 4, 0, 28, 60, 124, 252, 508, 1023, 2047, 4095]
theorem oth_tab : rtab .any (opsOf Try.f5 6) = oth_T := by kernel_rfl
theorem oth_bits : waitsOk oth_T.2 oth_B = true := by kernel_rfl
theorem others_take (S : List S46) (j m : Nat) (x : Int) (hm : (S.length : Int) - 1 - j = m) (hj : j < S.length) (hx : x = (rd_T46 S (m : Int)).f0) : ((S.map (·.f0)).reverse).take j ++ [x] = ((S.map (·.f0)).reverse).take (j + 1) := by
  have h1 : m < S.length := by omega
  rw [List.take_add_one]
  congr 1
  rw [List.getElem?_reverse (by simpa using hj)]
  have e : (List.map (·.f0) S).length - 1 - j = m := by simp; omega
  rw [e, hx]
  simp [rd_T46, List.getD, List.getElem?_eq_getElem h1]
set_option maxRecDepth 100000 in
set_option maxHeartbeats 8000000 in
theorem moveOthers.walk (A : Option Addr) (cc : Nat) (l : List Int) (k : Int) (w : World) (hC : Kd.C (Kd.int .u8) w A l.length l) (hc : l.length ≤ cc) (hb : Bytes l) (h0 : 0 ≤ k) (h1 : k ≤ 255) :
    Calls Try.prog 5 #[.slice A l.length cc, .int .u8 k] w fun e w' => e = .returned (.bool true) ∧ Below w.heap.size w w' := by
  obtain ⟨s0, s1, s2, S, hF, hst⟩ := state_use l hb
  have HF := Aside0.mk hF
  have HST := Aside0.mk hst
  have HC := Aside0.mk hC
  have HCC := Aside0.mk hc
  have HK := Aside0.mk (show 0 ≤ k ∧ k ≤ 255 from ⟨h0, h1⟩)
  have hS6 : S.length ≤ 6 := hF.1
  clear hF hst hC hc h0 h1 hb
  have hu34 := Try.underlying34
  have hu23 := Try.underlying23
  have hu46 := Try.underlying46
  go_enter Try.func5, Try.ntmps5
  go_wp2_with fail
  refine (HST.out A cc w HC.out HCC.out).mono ?_
  rintro e w1 ⟨AS, cS, rfl, hcS, hCS, hb⟩
  have HB1 := Aside0.mk hb
  have HCS := Aside0.mk hCS
  have HcS := Aside0.mk hcS
  clear hb hCS hcS
  go_wp2
  have HR5 : Aside0 (((w1.alloc (.cells #[.int .i64 s0, .int .i64 s1, .int .i64 s2, .slice AS S.length cS] 34)).alloc (.cells #[.int .i64 0, .int .i64 0, .int .i64 0, .slice none 0 0] 34)).heap[w1.heap.size]? = some (.cells #[.int .i64 s0, .int .i64 s1, .int .i64 s2, .slice AS S.length cS] 34 (0, 0))) := ⟨by
    rw [_root_.Go.heap_alloc_old _ _ (by rw [size_alloc]; omega)]; exact heap_alloc_new _ _⟩
  have HR6 : Aside0 (((w1.alloc (.cells #[.int .i64 s0, .int .i64 s1, .int .i64 s2, .slice AS S.length cS] 34)).alloc (.cells #[.int .i64 0, .int .i64 0, .int .i64 0, .slice none 0 0] 34)).heap[w1.heap.size + 1]? = some (.cells #[.int .i64 0, .int .i64 0, .int .i64 0, .slice none 0 0] 34 (0, 0))) := ⟨by
    have h := heap_alloc_new (w1.alloc (.cells #[.int .i64 s0, .int .i64 s1, .int .i64 s2, .slice AS S.length cS] 34)) (.cells #[.int .i64 0, .int .i64 0, .int .i64 0, .slice none 0 0] 34)
    rwa [size_alloc] at h⟩
  have HB2 : Aside0 (Below w1.heap.size w1 ((w1.alloc (.cells #[.int .i64 s0, .int .i64 s1, .int .i64 s2, .slice AS S.length cS] 34)).alloc (.cells #[.int .i64 0, .int .i64 0, .int .i64 0, .slice none 0 0] 34))) := ⟨((Below.refl _ _).alloc (Nat.le_refl _) _).alloc (by rw [size_alloc]; omega) _⟩
  have HZ2 : Aside0 (((w1.alloc (.cells #[.int .i64 s0, .int .i64 s1, .int .i64 s2, .slice AS S.length cS] 34)).alloc (.cells #[.int .i64 0, .int .i64 0, .int .i64 0, .slice none 0 0] 34)).heap.size = w1.heap.size + 1 + 1) := ⟨by rw [size_alloc, size_alloc]⟩
  generalize (w1.alloc (.cells #[.int .i64 s0, .int .i64 s1, .int .i64 s2, .slice AS S.length cS] 34)).alloc (.cells #[.int .i64 0, .int .i64 0, .int .i64 0, .slice none 0 0] 34) = w2 at *
  go_loopw [7] (fun v7 wr => ∃ (j : Nat) (T : List S46) (vt : Value), j ≤ S.length ∧ v7 = .int .i64 ((S.length : Int) - 1 - j) ∧ Aside0 (T.map (·.f0) = ((S.map (·.f0)).reverse).take j) ∧ Aside0 (Kd.R k46 46 wr w2.heap.size (fun _ => True) vt T) ∧ Aside0 (wr.heap[w1.heap.size]? = some (.cells #[.int .i64 s0, .int .i64 s1, .int .i64 s2, .slice AS S.length cS] 34 (0, 0))) ∧ Aside0 (wr.heap[w1.heap.size + 1]? = some (.cells #[.int .i64 0, .int .i64 0, .int .i64 0, vt] 34 (0, 0))) ∧ Aside0 (Below w1.heap.size w1 wr) ∧ Aside0 (w2.heap.size ≤ wr.heap.size)) (fun v7 _ => (intOf v7 + 1).toNat)
  case atStart => exact ⟨0, [], _, by omega, by go_num, ⟨rfl⟩, ⟨Kd.R_nil _ _ _ _ _⟩, HR5, HR6, HB2, ⟨Nat.le_refl _⟩⟩
  case round =>
    clear HR5 HR6 HB2
    obtain ⟨j, T, vt, hj, rfl, HTM, HO, HR5, HR6, HB, HSZ0⟩ := hrel
    by_cases hlt : j < S.length
    · have hge : decide (0 ≤ (S.length : Int) - 1 - j) = true := decide_eq_true (by omega)
      obtain ⟨m, hm⟩ : ∃ m : Nat, (S.length : Int) - 1 - j = m := ⟨S.length - 1 - j, by omega⟩
      have hmS : m < S.length := by omega
      rw [hm] at hge ⊢
      go_upto_region 6 with (fail)
      have hTl : T.length = j := by have := congrArg List.length HTM.out; simp at this; omega
      obtain ⟨ad, A7, c7, A8, c8, hA, hx0, -⟩ := at_T46 (Kd.C_below HCS.out HB.out) (m : Int) (by omega) (by omega)
      obtain ⟨x, hxx⟩ : ∃ x, x = (rd_T46 S (m : Int)).f0 := ⟨_, rfl⟩
      rw [← hxx] at hx0
      subst hA
      have HXX := Aside0.mk hxx
      clear hxx
      refine start_ (n := 13) (S := fun w' => Below wr.drew.heap.size wr.drew w') (ds := [10, 12]) (ba 13 0) (by kernel_rfl) rfl rfl (Below.refl _ _) (fun hHeld => ?_); refine with_tabW oth_tab oth_bits (fun HT_ HW_ => ?_)
      clear hHeld
      have HOd := Aside0.mk (Kd.R_drew HO.out)
      have HR5d : Aside0 (wr.drew.heap[w1.heap.size]? = _) := ⟨HR5.out⟩
      have HR6d : Aside0 (wr.drew.heap[w1.heap.size + 1]? = _) := ⟨HR6.out⟩
      have hcx : wr.drew.cell? (ad.add (m * 10)) = some (.int .i64 x) := hx0
      have cx_ := Aside0.mk hcx
      have HBd : Aside0 (Below w1.heap.size w1 wr.drew) := ⟨HB.out.drew⟩
      have HSZ : Aside0 (w2.heap.size ≤ wr.drew.heap.size) := ⟨HSZ0.out⟩
      have HTL : Aside0 (T.length ≤ 6) := ⟨by omega⟩
      clear hcx hx0 HO HR5 HR6 HB HSZ0
      generalize wr.drew = wd at *
      have c5_ := Aside0.mk (show wd.cell? ⟨w1.heap.size, 3, none⟩ = some (.slice (some ad) S.length cS) by rw [cell_of_row _ _ _ _ _ _ HR5d.out]; rfl)
      have c6_ := Aside0.mk (show wd.cell? ⟨w1.heap.size + 1, 3, none⟩ = some vt by rw [cell_of_row _ _ _ _ _ _ HR6d.out]; rfl)
      have HG5 : Aside0 (w1.heap.size < w2.heap.size) := ⟨by have := HZ2.out; omega⟩
      have HG6 : Aside0 (w1.heap.size + 1 < w2.heap.size) := ⟨by have := HZ2.out; omega⟩
      refine pure_ (i := 0) (N := some 24) (v := ?_) (a' := ?_) (ba 13 1) rfl rfl (any_of HT_.out (by kernel_rfl)) (fun _ _ _ h => h) (Or.inl ⟨by rfl, ?_⟩) ?_ ?_
      rotate_left
      · intro w'
        go_simp
        with_reducible rfl
      rotate_left
      · simp only [Act.put, List.setIfInBounds_toArray, List.set_cons_zero, List.set_cons_succ, i64_w, i32_w]
        rfl
      refine take_ (i := 1) (N := some 25) (v := ?_) (a' := ?_) (ba 13 3) rfl rfl (take_ofW HT_.out HW_.out (by kernel_rfl)) (fun _ _ _ h => h) (Or.inl ⟨by rfl, ?_⟩) (Below.refl _ _) ?_ ?_
      rotate_left
      · intro w' hS
        have hl_ := (hS.cell (block_lt_of_cell c6_.out)).trans c6_.out
        go_simp
        with_reducible rfl
      rotate_left
      · simp only [Act.put, List.setIfInBounds_toArray, List.set_cons_zero, List.set_cons_succ, i64_w, i32_w]
        rfl
      refine pure_ (i := 2) (N := some 26) (v := ?_) (a' := ?_) (ba 13 7) rfl rfl (any_of HT_.out (by kernel_rfl)) (fun _ _ _ h => h) (Or.inl ⟨by rfl, ?_⟩) ?_ ?_
      rotate_left
      · intro w'
        go_simp
        with_reducible rfl
      rotate_left
      · simp only [Act.put, List.setIfInBounds_toArray, List.set_cons_zero, List.set_cons_succ, i64_w, i32_w]
        rfl
      refine take_ (i := 3) (N := some 27) (v := ?_) (a' := ?_) (ba 13 15) rfl rfl (take_ofW HT_.out HW_.out (by kernel_rfl)) (fun _ _ _ h => h) (Or.inl ⟨by rfl, ?_⟩) (Below.refl _ _) ?_ ?_
      rotate_left
      · intro w' hS
        have hl_ := (hS.cell (block_lt_of_cell c5_.out)).trans c5_.out
        go_simp
        with_reducible rfl
      rotate_left
      · simp only [Act.put, List.setIfInBounds_toArray, List.set_cons_zero, List.set_cons_succ, i64_w, i32_w]
        rfl
      refine pure_ (i := 4) (N := some 28) (v := ?_) (a' := ?_) (ba 13 31) rfl rfl (any_of HT_.out (by kernel_rfl)) (fun _ _ _ h => h) (Or.inl ⟨by rfl, ?_⟩) ?_ ?_
      rotate_left
      · intro w'
        go_simp
        with_reducible rfl
      rotate_left
      · simp only [Act.put, List.setIfInBounds_toArray, List.set_cons_zero, List.set_cons_succ, i64_w, i32_w]
        rfl
      refine pure_ (i := 5) (N := some 29) (v := ?_) (a' := ?_) (ba 13 63) rfl rfl (any_of HT_.out (by kernel_rfl)) (fun _ _ _ h => h) (Or.inl ⟨by rfl, ?_⟩) ?_ ?_
      rotate_left
      · intro w'
        go_simp
        with_reducible rfl
      rotate_left
      · simp only [Act.put, List.setIfInBounds_toArray, List.set_cons_zero, List.set_cons_succ, i64_w, i32_w]
        rfl
      refine pure_ (i := 6) (N := some 30) (v := ?_) (a' := ?_) (ba 13 127) rfl rfl (any_of HT_.out (by kernel_rfl)) (fun _ _ _ h => h) (Or.inl ⟨by rfl, ?_⟩) ?_ ?_
      rotate_left
      · intro w'
        go_simp
        with_reducible rfl
      rotate_left
      · simp only [Act.put, List.setIfInBounds_toArray, List.set_cons_zero, List.set_cons_succ, i64_w, i32_w]
        rfl
      refine take_ (i := 7) (N := some 31) (v := ?_) (a' := ?_) (ba 13 255) rfl rfl (take_ofW HT_.out HW_.out (by kernel_rfl)) (fun _ _ _ h => h) (Or.inl ⟨by rfl, ?_⟩) (Below.refl _ _) ?_ ?_
      rotate_left
      · intro w' hS
        have hl_ := (hS.cell (block_lt_of_cell cx_.out)).trans cx_.out
        go_simp
        with_reducible rfl
      rotate_left
      · simp only [Act.put, List.setIfInBounds_toArray, List.set_cons_zero, List.set_cons_succ, i64_w, i32_w]
        rfl
      refine pure_ (i := 8) (N := some 32) (v := ?_) (a' := ?_) (ba 13 511) rfl rfl (any_of HT_.out (by kernel_rfl)) (fun _ _ _ h => h) (Or.inl ⟨by rfl, ?_⟩) ?_ ?_
      rotate_left
      · intro w'
        go_simp
        with_reducible rfl
      rotate_left
      · simp only [Act.put, List.setIfInBounds_toArray, List.set_cons_zero, List.set_cons_succ, i64_w, i32_w]
        rfl
      refine one_ (i := 9) (N := some 33) (ba 13 1023) rfl rfl (one_of HT_.out (by kernel_rfl)) (by decide) (fun K hK => ?_)
      refine value_ (w1 := ?_) (v := ?_) (by rfl) rfl ?_ ?_
      rotate_left 2
      · go_simp
        constructor
        · rfl
        · rfl
      refine hK.out _ _ ((Below.refl _ _).alloc (Nat.le_refl _) _) (fun _ => ?_)
      clear hK K
      refine norm_ (a' := ?_) ?_ ?_
      rotate_left
      · show Act.put _ (some 33) _ = _
        simp only [Act.put, List.setIfInBounds_toArray, List.set_cons_zero, List.set_cons_succ]
        rfl
      refine last_ (i := 10) (N := some 34) (ba 13 2047) rfl rfl (one_of HT_.out (by kernel_rfl)) (by decide) (fun K hK => ?_)
      refine Kd.R_append_step k46 (w0 := wd) w2.heap.size (by rfl) (.tmp 25) (.tmp 33) 32 46 (.agg #[(.int .i64 0), (.string ⟨#[]⟩), (.string ⟨#[]⟩), (.string ⟨#[]⟩), (.int .i64 0), (.int .i64 0), (.int .i64 0), (.slice none 0 0), (.slice none 0 0), (.string ⟨#[]⟩)]) 144 rfl Try.underlying32 info46 rfl (by decide) (by omega) vt T (⟨x, (⟨#[]⟩ : ByteArray), (⟨#[]⟩ : ByteArray), (⟨#[]⟩ : ByteArray), 0, 0, 0, ([] : List Int), ([] : List S68), (⟨#[]⟩ : ByteArray)⟩ : S46) [.int .i64 x, .string (⟨#[]⟩ : ByteArray), .string (⟨#[]⟩ : ByteArray), .string (⟨#[]⟩ : ByteArray), .int .i64 0, .int .i64 0, .int .i64 0, .slice none 0 0, .slice none 0 0, .string (⟨#[]⟩ : ByteArray)] (fun _ => True) (fun _ => False) rfl rfl ?aP (fun _ hk => hk.elim) ?aF ?aO ?aB ?aS ?aL ?_
      (case aP => exact k46_mkM _ _ _ (⟨x, (⟨#[]⟩ : ByteArray), (⟨#[]⟩ : ByteArray), (⟨#[]⟩ : ByteArray), 0, 0, 0, ([] : List Int), ([] : List S68), (⟨#[]⟩ : ByteArray)⟩ : S46) (Kd.R_nil _ _ _ _ _) (Kd.R_nil _ _ _ _ _))
      (case aF => exact fun _ _ => trivial)
      (case aO => exact HOd.out)
      (case aB => exact Below.refl _ _)
      (case aS => exact HSZ.out)
      (case aL => have := HTL.out; omega)
      intro vt2 w5 ho hb hg_ hat_
      have HO5 := Aside0.mk ho
      have HB5 := Aside0.mk hb
      clear ho hb hg_ hat_
      have HS5 := Aside0.mk ((HB5.out.block _ HG6.out).trans HR6d.out)
      have HQ5 := Aside0.mk ((HB5.out.block _ HG5.out).trans HR5d.out)
      refine hK.out _ _ ?_
      clear hK K
      refine norm_ (a' := ?_) ?_ ?_
      rotate_left
      · show Act.put _ (some 34) _ = _
        simp only [Act.put, List.setIfInBounds_toArray, List.set_cons_zero, List.set_cons_succ]
        rfl
      refine pure_ (i := 11) (N := some 35) (v := ?_) (a' := ?_) (ba 13 4095) rfl rfl (any_of HT_.out (by kernel_rfl)) (fun _ _ _ h => h) (Or.inl ⟨by rfl, ?_⟩) ?_ ?_
      rotate_left
      · intro w'
        go_simp
        with_reducible rfl
      rotate_left
      · simp only [Act.put, List.setIfInBounds_toArray, List.set_cons_zero, List.set_cons_succ, i64_w, i32_w]
        rfl
      refine last_ (i := 12) (N := none) (ba 13 8191) rfl rfl (one_of HT_.out (by kernel_rfl)) (by decide) (fun K hK => ?_)
      have hc0_ := cell_of_row _ _ _ _ _ 0 HS5.out
      have hc3_ : w5.cell? ⟨w1.heap.size + 1, 3, none⟩ = some vt := by rw [cell_of_row _ _ _ _ _ _ HS5.out]; rfl
      have hf3_ := frozen_of_row _ _ 3 _ _ HS5.out
      obtain ⟨At2, ct2, rfl⟩ := Kd.R_slice HO5.out
      clear hc0_
      refine skip_ (w1 := ?_) (by rfl) rfl ?_ ?_
      rotate_left
      · go_simp
        rfl
      refine hK.out _ _ ?_
      clear hK K
      refine done_ (done_of HT_.out (by kernel_rfl)) ?_
      go_wp2
      have hlen : (T ++ [(⟨x, (⟨#[]⟩ : ByteArray), (⟨#[]⟩ : ByteArray), (⟨#[]⟩ : ByteArray), 0, 0, 0, ([] : List Int), ([] : List S68), (⟨#[]⟩ : ByteArray)⟩ : S46)]).length = j + 1 := by simp [hTl]
      rw [hlen] at HO5
      have HSo : Aside0 ((w5.setCell ⟨w1.heap.size + 1, 3, none⟩ (.slice At2 (j + 1 : Nat) ct2)).heap[w1.heap.size]? = _) := ⟨(heap_setCell_other _ _ _ _ (by show w1.heap.size ≠ w1.heap.size + 1; omega)).trans HQ5.out⟩
      have HSs : Aside0 ((w5.setCell ⟨w1.heap.size + 1, 3, none⟩ (.slice At2 (j + 1 : Nat) ct2)).heap[w1.heap.size + 1]? = _) := ⟨(heap_setCell_same _ _ _ _ _ _ HS5.out).trans rfl⟩
      have HOs := Aside0.mk (Kd.R_set HO5.out HS5.out (by decide) 3 (.slice At2 (j + 1 : Nat) ct2))
      refine ⟨⟨j + 1, T ++ [(⟨x, (⟨#[]⟩ : ByteArray), (⟨#[]⟩ : ByteArray), (⟨#[]⟩ : ByteArray), 0, 0, 0, ([] : List Int), ([] : List S68), (⟨#[]⟩ : ByteArray)⟩ : S46)], _, by omega, by rw [← hm]; go_num, ⟨?_⟩, HOs, HSo, HSs, ⟨?_⟩, ⟨?_⟩⟩, by show ((m : Int) - 1 + 1).toNat < ((m : Int) + 1).toNat; omega⟩
      · rw [List.map_append, HTM.out]
        refine others_take S j m x hm hlt HXX.out
      · exact (HBd.out.trans (HB5.out.mono (by have := HZ2.out; omega))).setCell (p := ⟨w1.heap.size + 1, 3, none⟩) (Nat.le_succ _) _
      · have := HB5.out.size; rw [show ∀ (a : Addr) (v : Value), (w5.setCell a v).heap.size = w5.heap.size from fun a v => Array.size_modify .. ]; have := HSZ.out; omega
    · have hge : decide (0 ≤ (S.length : Int) - 1 - j) = false := decide_eq_false (by omega)
      have hjS : j = S.length := by omega
      subst hjS
      have HRT : Aside0 (T.length = S.length) := ⟨by have := congrArg List.length HTM.out; simpa using this⟩
      have HTR : Aside0 (T.map (·.f0) = (S.map (·.f0)).reverse) := ⟨by rw [HTM.out, List.take_of_length_le (by simp)]⟩
      obtain ⟨AT, cT, rfl, hcT, hCT⟩ := Kd.R_reads HO.out
      have HCT := Aside0.mk hCT
      have HcT := Aside0.mk hcT
      obtain ⟨f, t, c, b, hmx⟩ : ∃ f t c b, mixI k = (f, t, c, b) := ⟨_, _, _, _, rfl⟩
      have HMX := Aside0.mk hmx
      clear hCT hcT hmx HO HTM
      go_wp2_with fail
      refine (mix.walk k HK.out.1 HK.out.2 _).mono ?_
      rintro e w3 ⟨rfl, hb⟩
      have P5 := Aside0.mk ((hb.block _ (Array.getElem?_eq_some_iff.1 HR5.out).1).trans HR5.out)
      have P6 := Aside0.mk ((hb.block _ (Array.getElem?_eq_some_iff.1 HR6.out).1).trans HR6.out)
      have HCT3 := Aside0.mk (Kd.C_below HCT.out hb)
      have HB3 := Aside0.mk (below_step HB.out hb)
      clear hb HR5 HR6 HCT HB
      rw [HMX.out]
      have P5a : Aside0 ((w3.alloc (.cells #[.int .i64 f, .int .i64 t, .int .i64 c, .bool b] 23)).heap[w1.heap.size]? = _) := ⟨(_root_.Go.heap_alloc_old _ _ (Array.getElem?_eq_some_iff.1 P5.out).1).trans P5.out⟩
      have P6a : Aside0 ((w3.alloc (.cells #[.int .i64 f, .int .i64 t, .int .i64 c, .bool b] 23)).heap[w1.heap.size + 1]? = _) := ⟨(_root_.Go.heap_alloc_old _ _ (Array.getElem?_eq_some_iff.1 P6.out).1).trans P6.out⟩
      have P8a : Aside0 ((w3.alloc (.cells #[.int .i64 f, .int .i64 t, .int .i64 c, .bool b] 23)).heap[w3.heap.size]? = _) := ⟨heap_alloc_new _ _⟩
      have HB4 := Aside0.mk ((Below.refl w3.heap.size w3).alloc (Nat.le_refl _) (.cells #[.int .i64 f, .int .i64 t, .int .i64 c, .bool b] 23))
      go_wp2_with (first | (refine wpList_load_row rfl 34 _ rfl w1.heap.size rfl 34 #[.int .i64 s0, .int .i64 s1, .int .i64 s2, .slice AS S.length cS] (0, 0) _ P5a.out Try.underlying34 rfl size34 ?_))
      have HCS4 := Aside0.mk (Kd.C_below HCS.out (below_step HB3.out HB4.out))
      have HCT4 := Aside0.mk (Kd.C_below HCT3.out HB4.out)
      have HB4w := Aside0.mk (below_step HB3.out HB4.out)
      have hG8 : Aside0 (w1.heap.size + 1 < w3.heap.size) := ⟨(Array.getElem?_eq_some_iff.1 P6.out).1⟩
      clear P5 P6 HCT3 HB3 HB4
      generalize hg8 : w3.heap.size = g8 at *
      generalize w3.alloc (.cells #[.int .i64 f, .int .i64 t, .int .i64 c, .bool b] 23) = w4 at *
      clear hg8 w3
      have hperm : (S.map (·.f0)).Perm (T.map (·.f0)) := by rw [HTR.out]; exact (List.reverse_perm _).symm
      obtain ⟨f2, t2, c2, b2, o2, hs2⟩ : ∃ f2 t2 c2 b2 o2, stepI f t c b S = (f2, t2, c2, b2, o2) := ⟨_, _, _, _, _, rfl⟩
      have hsT : stepI f t c b T = (f2, t2, c2, b2, o2) := (step_perm hperm f t c b).symm.trans hs2
      have HS2 := Aside0.mk hs2
      have HST2 := Aside0.mk hsT
      have HPM := Aside0.mk hperm
      clear hperm hs2 hsT
      refine (step.walk f t c b s0 s1 s2 AS cS S _ HCS4.out HcS.out (by omega)).mono ?_
      rintro e w5 ⟨rfl, hb⟩
      rw [HS2.out]
      have P5b := Aside0.mk ((hb.block _ (Array.getElem?_eq_some_iff.1 P5a.out).1).trans P5a.out)
      have P6b := Aside0.mk ((hb.block _ (Array.getElem?_eq_some_iff.1 P6a.out).1).trans P6a.out)
      have P8b := Aside0.mk ((hb.block _ (Array.getElem?_eq_some_iff.1 P8a.out).1).trans P8a.out)
      have HB5 := Aside0.mk (below_step HB4w.out hb)
      have HCT5 := Aside0.mk (Kd.C_below HCT4.out hb)
      have P5c : Aside0 ((w5.alloc (.cells #[.int .i64 f2, .int .i64 t2, .int .i64 c2, .bool b2] 23)).heap[w1.heap.size]? = _) := ⟨(_root_.Go.heap_alloc_old _ _ (Array.getElem?_eq_some_iff.1 P5b.out).1).trans P5b.out⟩
      have P6c : Aside0 ((w5.alloc (.cells #[.int .i64 f2, .int .i64 t2, .int .i64 c2, .bool b2] 23)).heap[w1.heap.size + 1]? = _) := ⟨(_root_.Go.heap_alloc_old _ _ (Array.getElem?_eq_some_iff.1 P6b.out).1).trans P6b.out⟩
      have P8c : Aside0 ((w5.alloc (.cells #[.int .i64 f2, .int .i64 t2, .int .i64 c2, .bool b2] 23)).heap[g8]? = _) := ⟨(_root_.Go.heap_alloc_old _ _ (Array.getElem?_eq_some_iff.1 P8b.out).1).trans P8b.out⟩
      have P9c : Aside0 ((w5.alloc (.cells #[.int .i64 f2, .int .i64 t2, .int .i64 c2, .bool b2] 23)).heap[w5.heap.size]? = _) := ⟨heap_alloc_new _ _⟩
      have HB6 := Aside0.mk ((Below.refl w5.heap.size w5).alloc (Nat.le_refl _) (.cells #[.int .i64 f2, .int .i64 t2, .int .i64 c2, .bool b2] 23))
      clear hb P5a P6a P8a HCS4 HCT4 HB4w P5b P6b
      go_wp2_with (first | (refine wpList_load_row rfl 34 _ rfl (w1.heap.size + 1) rfl 34 #[.int .i64 0, .int .i64 0, .int .i64 0, .slice AT T.length cT] (0, 0) _ P6c.out Try.underlying34 rfl size34 ?_) | (refine wpList_load_row rfl 23 _ rfl g8 rfl 23 #[.int .i64 f, .int .i64 t, .int .i64 c, .bool b] (0, 0) _ P8c.out Try.underlying23 rfl size23 ?_))
      have HB6w := Aside0.mk (below_step HB5.out HB6.out)
      have HCT6 := Aside0.mk (Kd.C_below HCT5.out HB6.out)
      clear HB5 HB6 HCT5 P8b
      generalize hg9 : w5.heap.size = g9 at *
      generalize w5.alloc (.cells #[.int .i64 f2, .int .i64 t2, .int .i64 c2, .bool b2] 23) = w6 at *
      clear hg9 w5
      refine (step.walk f t c b 0 0 0 AT cT T _ HCT6.out HcT.out (by have := HRT.out; omega)).mono ?_
      rintro e w7 ⟨rfl, hb⟩
      rw [HST2.out]
      have P5d := Aside0.mk ((hb.block _ (Array.getElem?_eq_some_iff.1 P5c.out).1).trans P5c.out)
      have P6d := Aside0.mk ((hb.block _ (Array.getElem?_eq_some_iff.1 P6c.out).1).trans P6c.out)
      have P8d := Aside0.mk ((hb.block _ (Array.getElem?_eq_some_iff.1 P8c.out).1).trans P8c.out)
      have P9d := Aside0.mk ((hb.block _ (Array.getElem?_eq_some_iff.1 P9c.out).1).trans P9c.out)
      have HB7 := Aside0.mk (below_step HB6w.out hb)
      have HCT7 := Aside0.mk (Kd.C_below HCT6.out hb)
      clear hb P5c P6c P8c P9c HB6w HCT6
      go_wp2_with fail
      have P5e : Aside0 ((w7.alloc (.cells #[.int .i64 f2, .int .i64 t2, .int .i64 c2, .bool b2] 23)).heap[w1.heap.size]? = _) := ⟨(_root_.Go.heap_alloc_old _ _ (Array.getElem?_eq_some_iff.1 P5d.out).1).trans P5d.out⟩
      have P6e : Aside0 ((w7.alloc (.cells #[.int .i64 f2, .int .i64 t2, .int .i64 c2, .bool b2] 23)).heap[w1.heap.size + 1]? = _) := ⟨(_root_.Go.heap_alloc_old _ _ (Array.getElem?_eq_some_iff.1 P6d.out).1).trans P6d.out⟩
      have P8e : Aside0 ((w7.alloc (.cells #[.int .i64 f2, .int .i64 t2, .int .i64 c2, .bool b2] 23)).heap[g8]? = _) := ⟨(_root_.Go.heap_alloc_old _ _ (Array.getElem?_eq_some_iff.1 P8d.out).1).trans P8d.out⟩
      have P9e : Aside0 ((w7.alloc (.cells #[.int .i64 f2, .int .i64 t2, .int .i64 c2, .bool b2] 23)).heap[g9]? = _) := ⟨(_root_.Go.heap_alloc_old _ _ (Array.getElem?_eq_some_iff.1 P9d.out).1).trans P9d.out⟩
      have P11e : Aside0 ((w7.alloc (.cells #[.int .i64 f2, .int .i64 t2, .int .i64 c2, .bool b2] 23)).heap[w7.heap.size]? = _) := ⟨heap_alloc_new _ _⟩
      have HB8w := Aside0.mk (below_step HB7.out ((Below.refl w7.heap.size w7).alloc (Nat.le_refl _) (.cells #[.int .i64 f2, .int .i64 t2, .int .i64 c2, .bool b2] 23)))
      have HCT8 := Aside0.mk (Kd.C_below HCT7.out ((Below.refl w7.heap.size w7).alloc (Nat.le_refl _) (.cells #[.int .i64 f2, .int .i64 t2, .int .i64 c2, .bool b2] 23)))
      have HCS8 := Aside0.mk (Kd.C_below HCS.out HB8w.out)
      clear P5d P6d P8d P9d HB7 HCT7
      generalize hg11 : w7.heap.size = g11 at *
      generalize w7.alloc (.cells #[.int .i64 f2, .int .i64 t2, .int .i64 c2, .bool b2] 23) = w8 at *
      clear hg11 w7
      have HLS := Aside0.mk (left_pure HF.out (by omega) 100 f t c b s0 s1 s2 (by have := left_le HF.out f t c b; omega))
      have HLT := Aside0.mk (left_pure (fine_perm HPM.out HF.out) (by omega) 100 f t c b 0 0 0 (by have := left_le (fine_perm HPM.out HF.out) f t c b; omega))
      rw [← left_perm HPM.out f t c b] at HLT
      have HLC : Aside0 (∀ (w' : World) (v : Value), Below w8.heap.size w8 w' → (v = .agg #[.int .i64 s0, .int .i64 s1, .int .i64 s2, .slice AS S.length cS] ∨ v = .agg #[.int .i64 0, .int .i64 0, .int .i64 0, .slice AT T.length cT]) → Calls Try.prog 14 #[.agg #[.int .i64 f, .int .i64 t, .int .i64 c, .bool b], v] w' fun e w'' => e = .returned (.int .i64 (left f t c b S : Int)) ∧ Below w'.heap.size w' w'') := ⟨by
        rintro w' v hb (rfl | rfl)
        · exact BLeft.move_Left.calls 100 f t c b s0 s1 s2 AS cS S _ w' (Kd.C_below HCS8.out hb) HcS.out HLS.out
        · exact BLeft.move_Left.calls 100 f t c b 0 0 0 AT cT T _ w' (Kd.C_below HCT8.out hb) HcT.out HLT.out⟩
      clear HLS HLT HF HST HS2 HST2 HPM HTR HRT HMX
      generalize (left f t c b S : Int) = L at *
      have hk : ∀ w', Below w8.heap.size w8 w' → w'.cell? ⟨w1.heap.size, 0, none⟩ = some (.int .i64 s0) ∧ w'.cell? ⟨w1.heap.size, 1, none⟩ = some (.int .i64 s1) ∧ w'.cell? ⟨w1.heap.size, 2, none⟩ = some (.int .i64 s2) ∧ w'.cell? ⟨w1.heap.size, 3, none⟩ = some (.slice AS S.length cS) ∧ w'.cell? ⟨w1.heap.size + 1, 0, none⟩ = some (.int .i64 0) ∧ w'.cell? ⟨w1.heap.size + 1, 1, none⟩ = some (.int .i64 0) ∧ w'.cell? ⟨w1.heap.size + 1, 2, none⟩ = some (.int .i64 0) ∧ w'.cell? ⟨w1.heap.size + 1, 3, none⟩ = some (.slice AT T.length cT) ∧ w'.cell? ⟨g8, 0, none⟩ = some (.int .i64 f) ∧ w'.cell? ⟨g8, 1, none⟩ = some (.int .i64 t) ∧ w'.cell? ⟨g8, 2, none⟩ = some (.int .i64 c) ∧ w'.cell? ⟨g8, 3, none⟩ = some (.bool b) ∧ w'.cell? ⟨g9, 0, none⟩ = some (.int .i64 f2) ∧ w'.cell? ⟨g9, 1, none⟩ = some (.int .i64 t2) ∧ w'.cell? ⟨g9, 2, none⟩ = some (.int .i64 c2) ∧ w'.cell? ⟨g9, 3, none⟩ = some (.bool b2) ∧ w'.cell? ⟨g11, 0, none⟩ = some (.int .i64 f2) ∧ w'.cell? ⟨g11, 1, none⟩ = some (.int .i64 t2) ∧ w'.cell? ⟨g11, 2, none⟩ = some (.int .i64 c2) ∧ w'.cell? ⟨g11, 3, none⟩ = some (.bool b2) ∧ Below w8.heap.size w8 w' := by
        intro w' hb
        have hr : ∀ (g : Nat) (cs : Array Value) (ty : TypeId) (j : Nat) (v : Value), w8.heap[g]? = some (.cells cs ty (0, 0)) → cs[j]? = some v → w'.cell? ⟨g, j, none⟩ = some v := by
          intro g cs ty j v hg hv
          have hg' := (hb.block g (Array.getElem?_eq_some_iff.1 hg).1).trans hg
          rw [cell_of_row _ _ _ _ _ _ hg', hv]
        exact ⟨hr _ _ _ _ _ P5e.out rfl, hr _ _ _ _ _ P5e.out rfl, hr _ _ _ _ _ P5e.out rfl, hr _ _ _ _ _ P5e.out rfl, hr _ _ _ _ _ P6e.out rfl, hr _ _ _ _ _ P6e.out rfl, hr _ _ _ _ _ P6e.out rfl, hr _ _ _ _ _ P6e.out rfl, hr _ _ _ _ _ P8e.out rfl, hr _ _ _ _ _ P8e.out rfl, hr _ _ _ _ _ P8e.out rfl, hr _ _ _ _ _ P8e.out rfl, hr _ _ _ _ _ P9e.out rfl, hr _ _ _ _ _ P9e.out rfl, hr _ _ _ _ _ P9e.out rfl, hr _ _ _ _ _ P9e.out rfl, hr _ _ _ _ _ P11e.out rfl, hr _ _ _ _ _ P11e.out rfl, hr _ _ _ _ _ P11e.out rfl, hr _ _ _ _ _ P11e.out rfl, hb⟩
      go_region_held3 (fun w' => w'.cell? ⟨w1.heap.size, 0, none⟩ = some (.int .i64 s0) ∧ w'.cell? ⟨w1.heap.size, 1, none⟩ = some (.int .i64 s1) ∧ w'.cell? ⟨w1.heap.size, 2, none⟩ = some (.int .i64 s2) ∧ w'.cell? ⟨w1.heap.size, 3, none⟩ = some (.slice AS S.length cS) ∧ w'.cell? ⟨w1.heap.size + 1, 0, none⟩ = some (.int .i64 0) ∧ w'.cell? ⟨w1.heap.size + 1, 1, none⟩ = some (.int .i64 0) ∧ w'.cell? ⟨w1.heap.size + 1, 2, none⟩ = some (.int .i64 0) ∧ w'.cell? ⟨w1.heap.size + 1, 3, none⟩ = some (.slice AT T.length cT) ∧ w'.cell? ⟨g8, 0, none⟩ = some (.int .i64 f) ∧ w'.cell? ⟨g8, 1, none⟩ = some (.int .i64 t) ∧ w'.cell? ⟨g8, 2, none⟩ = some (.int .i64 c) ∧ w'.cell? ⟨g8, 3, none⟩ = some (.bool b) ∧ w'.cell? ⟨g9, 0, none⟩ = some (.int .i64 f2) ∧ w'.cell? ⟨g9, 1, none⟩ = some (.int .i64 t2) ∧ w'.cell? ⟨g9, 2, none⟩ = some (.int .i64 c2) ∧ w'.cell? ⟨g9, 3, none⟩ = some (.bool b2) ∧ w'.cell? ⟨g11, 0, none⟩ = some (.int .i64 f2) ∧ w'.cell? ⟨g11, 1, none⟩ = some (.int .i64 t2) ∧ w'.cell? ⟨g11, 2, none⟩ = some (.int .i64 c2) ∧ w'.cell? ⟨g11, 3, none⟩ = some (.bool b2) ∧ Below w8.heap.size w8 w') (first | exact hk _ (by assumption) | exact hk _ (Below.refl _ _).drew | (go_split_ands; exact hk _ (by assumption)) | (go_split_ands; exact hk _ (Below.drew (by assumption)))) (first | (go_at_call 10; go_split_ands; refine (known.walk _).mono ?_; rintro e w' ⟨rfl, hb⟩; have hbb := below_step (by assumption) hb; clear hb) | (go_at_call 14; go_split_ands; refine (HLC.out _ _ (by assumption) (by first | exact Or.inl (by with_reducible rfl) | exact Or.inr (by with_reducible rfl))).mono ?_; rintro e w' ⟨rfl, hb⟩; have hbb := below_step (by assumption) hb; clear hb))
      go_wp2
      go_ret
      exact ⟨by first | rfl | simp, below_step (below_step HB1.out HB8w.out) (by assumption)⟩
theorem bytes_of {l : List Int} (h : ∀ n ∈ l, (Lit.int .u8 n).wf = true) : Bytes l := by
  intro i
  unfold rd
  rw [List.getD_eq_getElem?_getD]
  cases e : l[i.toNat]? with
  | none => simp
  | some v =>
    have := bounds_u8 (h v (List.mem_of_getElem? e))
    simp only [Option.getD_some]
    omega
theorem moveOthers.row (a0 : Option Addr) (len0 cap0 : Nat) (z0 : List Int) (a1 : Int) (w : World) (w0 : (a0 = none ∧ len0 = 0 ∧ cap0 = 0 ∧ z0 = []) ∨ ∃ x, a0 = some x ∧ len0 ≤ cap0 ∧ cap0 ≤ maxLen ∧ z0.length = cap0 ∧ (∀ i, i < z0.length → w.cell? (x.add i) = some (.int .u8 (z0.getD i 0))) ∧ ∀ n ∈ z0, (Lit.int .u8 n).wf = true) (w1 : (Lit.int .u8 a1).wf = true) :
    Calls Try.prog 5 #[.slice a0 len0 cap0, .int .u8 a1] w fun e w' => e = .returned (.bool true) ∧ Below w.heap.size w w' := by
  obtain ⟨l0, rfl, hr0, hm0, hw0, hc0⟩ := ReadsInt.ofRowC w0
  have hb := bounds_u8 w1
  exact moveOthers.walk a0 cap0 l0 a1 w (Kd.C_of_reads (d := (0 : Int)) (h1 := fun _ => rfl) hr0) hc0 (bytes_of hw0) hb.1 hb.2
end Go.Proofs.Ytajfefjmfelnbaa
