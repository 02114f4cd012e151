/- roadsteadlaw10.Sub of the given program: its region 13, in each order that Go may take. -/
import Derived.Test.YtajfefjmfelnbaaSubR
namespace Go.Proofs.Ytajfefjmfelnbaa
open Go.RowKit Go.Proofs.YtajfefjmfelnbaaW.PrintWords Go.Proofs.YtajfefjmfelnbaaW.PrintLast Go.Proofs.YtajfefjmfelnbaaW.PrintMore BState
set_option linter.unusedVariables false
set_option linter.unusedSimpArgs false
theorem size68 : (Try.prog.info? 68).map (·.size) = some 8 := by kernel_rfl
theorem one68 (a b c d : Int) (s t u : ByteArray) (v : Bool) : (#[.int .i64 a, .string s, .string t, .int .i64 b, .int .i64 c, .bool v, .string u, .int .i64 d] : Array Value).all (·.oneCell') = true := by simp [Value.oneCell']
def sub_T13 : Bool × List (List Nat × List Nat) := (true, [([], []), ([], []), ([], []), ([2], [2]), ([1, 3], [1, 3]), ([4], [4]), ([5], [5]), ([6], [6]), ([], []), ([], []), ([], []), ([10], [10]), ([9, 11], [9, 11]), ([12], [12]), ([13], [13]), ([8, 14], [8, 14]), ([15], [15]), ([0, 7, 16], [0, 7, 16]), ([], []), ([18, 17, 7, 0, 1, 2, 3, 4, 5, 6, 7, 8, 9, 10, 11, 12, 13, 14, 15, 16, 17, 18], [17, 18])])
def sub_B13 : List Nat := [0, 0, 0, 4, 14, 30, 62, 126, 0, 0, 0, 1024, 3584, 7680, 15872, 32512, 65280, 131071, 0, 524287]
theorem sub_tab13 : rtab .any (opsOf Try.f24 13) = sub_T13 := by kernel_rfl
theorem sub_bits13 : waitsOk sub_T13.2 sub_B13 = true := by kernel_rfl
set_option maxRecDepth 100000 in
set_option maxHeartbeats 8000000 in
theorem sub_r13 {Q : Exit → Act → World → Prop} (ad : Addr) (c0 : Nat) (l0 : List Int) (k : Nat) (sq i0 i1 i2 b1 b2 : Int) (tx s1 : ByteArray) (n1 : Nat) (w : World) (x1 x2 x3 x4 x5 x6 x7 x8 x9 x12 x13 x14 x15 x16 x17 x18 x19 x20 x21 x22 x23 x24 x25 x26 x27 x28 x29 x30 x31 x32 x33 x34 x35 x36 x37 x38 x39 x40 x41 x42 x43 x44 x45 x46 x47 x48 x49 x50 x51 x52 x53 x54 x55 x56 x57 x58 x59 x60 x61 x62 x63 x64 x65 x66 x67 x68 x69 x70 x71 x72 x73 x74 x75 x76 x77 x78 x79 x80 x81 x82 x83 x84 x85 x86 x87 x88 x89 x90 x91 x92 x93 x94 x95 x96 x97 x98 x99 x100 x101 x102 x103 x104 x105 x106 x107 x108 x109 x110 x111 x112 x113 x114 x115 x116 x117 x118 x119 x120 x121 x122 x123 x124 x125 x126 x127 x128 x129 x130 x131 x132 x133 x134 x135 x136 x137 x138 x139 x140 x141 x142 x143 x144 x145 x146 x147 x148 x149 x150 x151 x152 x153 x154 x155 x156 x157 x158 x159 x160 x161 x162 x163 x164 x165 x166 x167 x168 x169 x170 x171 x172 x173 x174 x175 x176 x177 x178 x179 x180 x181 x182 x183 x184 x185 x186 x187 x188 x189 x190 x191 x192 x193 x194 x195 : Value)
    (HX : Aside0 (roadsteadlaw10_text.f k (wrap64 b1) 60 = some tx))
    (hi1 : wrap64 (i0 + 1) = i1) (hi1w : IntKind.i64.wrap (i0 + 1) = i1) (hi2 : wrap64 (i0 + 2) = i2) (hi2w : IntKind.i64.wrap (i0 + 2) = i2) (h10 : (0 ≤ i1) = True) (h11 : (i1 < (l0.length : Int)) = True) (h20 : (0 ≤ i2) = True) (h21 : (i2 < (l0.length : Int)) = True)
    (HB1 : Aside0 (∀ w', Below w.heap.size w w' → w'.cell? (ad.add i1.toNat) = some (.int .u8 b1))) (HB2 : Aside0 (∀ w', Below w.heap.size w w' → w'.cell? (ad.add i2.toNat) = some (.int .u8 b2)))
    (hn1 : Int.tmod b2 3 = (n1 : Int)) (hnl : n1 < 3) (hnl2 : ((n1 : Int) < 3) = True) (hs1 : (#[.string ⟨#[]⟩, .string (⟨#[97, 61, 49]⟩ : ByteArray), .string (⟨#[98, 61, 50]⟩ : ByteArray)] : Array Value)[n1]? = some (.string s1))
    (hP : ∀ c (a : Act) (d : Option Tmp) (v : Value) (w : World), Q (.panic c) (a.put d v) w → Q (.panic c) a w)
    (HQ : Aside0 (∀ (v97 v98 v99 v100 v101 v102 v103 v104 v105 v106 v107 v108 v109 v110 v111 v112 v113 v114 : Value) (g : Nat) (w' : World), w.heap.size ≤ g → Below w.heap.size w w' → w'.heap[g]? = some (.cells #[.int .i64 sq, .string tx, .string s1, .int .i64 0, .int .i64 0, .bool false, .string ⟨#[]⟩, .int .i64 0] 68 (0, 0)) → Q .normal { tmps := #[.slice (some ad) l0.length c0, x1, x2, x3, x4, x5, x6, x7, x8, x9, .int .i64 sq, .int .i64 i0, .pointer (some ⟨g, 0, none⟩), x13, x14, x15, x16, x17, x18, x19, x20, x21, x22, x23, x24, x25, x26, x27, x28, x29, x30, x31, x32, x33, x34, x35, x36, x37, x38, x39, x40, x41, x42, x43, x44, x45, x46, x47, x48, x49, x50, x51, x52, x53, x54, x55, x56, x57, x58, x59, x60, x61, x62, x63, x64, x65, x66, x67, x68, x69, x70, x71, x72, x73, x74, x75, x76, x77, x78, x79, x80, x81, x82, x83, x84, x85, x86, x87, x88, x89, x90, x91, x92, x93, x94, x95, x96, v97, v98, v99, v100, v101, v102, v103, v104, v105, v106, v107, v108, v109, v110, v111, v112, v113, v114, x115, x116, x117, x118, x119, x120, x121, x122, x123, x124, x125, x126, x127, x128, x129, x130, x131, x132, x133, x134, x135, x136, x137, x138, x139, x140, x141, x142, x143, x144, x145, x146, x147, x148, x149, x150, x151, x152, x153, x154, x155, x156, x157, x158, x159, x160, x161, x162, x163, x164, x165, x166, x167, x168, x169, x170, x171, x172, x173, x174, x175, x176, x177, x178, x179, x180, x181, x182, x183, x184, x185, x186, x187, x188, x189, x190, x191, x192, x193, x194, x195], defers := [] } w')) :
    (Code.region 13 (opsOf Try.f24 13) true).wp Try.prog Q { tmps := #[.slice (some ad) l0.length c0, x1, x2, x3, x4, x5, x6, x7, x8, x9, .int .i64 sq, .int .i64 i0, x12, x13, x14, x15, x16, x17, x18, x19, x20, x21, x22, x23, x24, x25, x26, x27, x28, x29, x30, x31, x32, x33, x34, x35, x36, x37, x38, x39, x40, x41, x42, x43, x44, x45, x46, x47, x48, x49, x50, x51, x52, x53, x54, x55, x56, x57, x58, x59, x60, x61, x62, x63, x64, x65, x66, x67, x68, x69, x70, x71, x72, x73, x74, x75, x76, x77, x78, x79, x80, x81, x82, x83, x84, x85, x86, x87, x88, x89, x90, x91, x92, x93, x94, x95, x96, x97, x98, x99, x100, x101, x102, x103, x104, x105, x106, x107, x108, x109, x110, x111, x112, x113, x114, x115, x116, x117, x118, x119, x120, x121, x122, x123, x124, x125, x126, x127, x128, x129, x130, x131, x132, x133, x134, x135, x136, x137, x138, x139, x140, x141, x142, x143, x144, x145, x146, x147, x148, x149, x150, x151, x152, x153, x154, x155, x156, x157, x158, x159, x160, x161, x162, x163, x164, x165, x166, x167, x168, x169, x170, x171, x172, x173, x174, x175, x176, x177, x178, x179, x180, x181, x182, x183, x184, x185, x186, x187, x188, x189, x190, x191, x192, x193, x194, x195], defers := [] } w := by
  have hu68 := Try.underlying68
  unfold opsOf Try.f24
  simp only [Option.bind_some, opsIn, Nat.reduceBEq, Bool.false_eq_true, if_false, if_true, beq_self_eq_true, Option.getD_some]
  have LA_ : ∀ W : World, (W.alloc (.cells #[.string ⟨#[]⟩, .string (⟨#[97, 61, 49]⟩ : ByteArray), .string (⟨#[98, 61, 50]⟩ : ByteArray)] 9)).cell? ⟨W.heap.size, n1, none⟩ = some (.string s1) := fun W => by rw [cell_of_row _ _ _ _ _ _ (heap_alloc_new _ _)]; exact hs1
  have HLA := Aside0.mk LA_
  clear hs1 LA_
  refine start_ (n := 20) (S := fun w' => Below w.heap.size w w') (ds := []) (ba 20 0) (by kernel_rfl) rfl rfl ((Below.refl _ _).drew) (fun hHeld => ?_); refine with_tabW sub_tab13 sub_bits13 (fun HT_ HW_ => ?_)
  have HB0 := Aside0.mk hHeld
  clear hHeld
  generalize w.drew = w0 at *
  refine pure_ (i := 0) (N := some 97) (v := ?_) (a' := ?_) (ba 20 1) rfl rfl (any_of HT_.out (by kernel_rfl)) (fun _ _ _ h => hP _ _ _ _ _ h) (Or.inl ⟨by rfl, ?_⟩) ?_ ?_
  rotate_left
  · intro w'; go_simp; with_reducible rfl
  rotate_left
  · simp only [pS, pN, sB, sZ, sS, i64_w, i32_w]; rfl
  refine pure_ (i := 1) (N := some 98) (v := ?_) (a' := ?_) (ba 20 3) rfl rfl (any_of HT_.out (by kernel_rfl)) (fun _ _ _ h => hP _ _ _ _ _ h) (Or.inl ⟨by rfl, ?_⟩) ?_ ?_
  rotate_left
  · intro w'; go_simp; with_reducible rfl
  rotate_left
  · simp only [pS, pN, sB, sZ, sS, i64_w, i32_w]; rfl
  refine pure_ (i := 2) (N := some 99) (v := ?_) (a' := ?_) (ba 20 7) rfl rfl (any_of HT_.out (by kernel_rfl)) (fun _ _ _ h => hP _ _ _ _ _ h) (Or.inl ⟨by rfl, ?_⟩) ?_ ?_
  rotate_left
  · intro w'; go_simp; with_reducible rfl
  rotate_left
  · simp only [pS, pN, sB, sZ, sS, i64_w, i32_w]; rfl
  refine pure_ (i := 3) (N := some 100) (v := ?_) (a' := ?_) (ba 20 15) rfl rfl (any_of HT_.out (by kernel_rfl)) (fun _ _ _ h => hP _ _ _ _ _ h) (Or.inl ⟨by rfl, ?_⟩) ?_ ?_
  rotate_left
  · intro w'; go_simp; with_reducible rfl
  rotate_left
  · simp only [pS, pN, sB, sZ, sS, i64_w, i32_w]; rfl
  refine pure_ (i := 4) (N := some 101) (v := ?_) (a' := ?_) (ba 20 31) rfl rfl (any_of HT_.out (by kernel_rfl)) (fun _ _ _ h => hP _ _ _ _ _ h) (Or.inl ⟨by rfl, ?_⟩) ?_ ?_
  rotate_left
  · intro w'; go_simp; with_reducible rfl
  rotate_left
  · simp only [pS, pN, sB, sZ, sS, i64_w, i32_w]; rfl
  refine take_ (i := 5) (N := some 102) (v := ?_) (a' := ?_) (ba 20 63) rfl rfl (take_ofW HT_.out HW_.out (by kernel_rfl)) (fun _ _ _ h => hP _ _ _ _ _ h) (Or.inl ⟨by rfl, ?_⟩) (HB0.out) ?_ ?_
  rotate_left
  · intro w' hS
    have hl_ := HB1.out w' (hS)
    go_simp
    with_reducible rfl
  rotate_left
  · simp only [pS, pN, sB, sZ, sS, i64_w, i32_w]; rfl
  refine pure_ (i := 6) (N := some 103) (v := ?_) (a' := ?_) (ba 20 127) rfl rfl (any_of HT_.out (by kernel_rfl)) (fun _ _ _ h => hP _ _ _ _ _ h) (Or.inl ⟨by rfl, ?_⟩) ?_ ?_
  rotate_left
  · intro w'; go_simp; with_reducible rfl
  rotate_left
  · simp only [pS, pN, sB, sZ, sS, i64_w, i32_w]; rfl
  refine pure_ (i := 9) (N := some 106) (v := ?_) (a' := ?_) (ba 20 639) rfl rfl (any_of HT_.out (by kernel_rfl)) (fun _ _ _ h => hP _ _ _ _ _ h) (Or.inl ⟨by rfl, ?_⟩) ?_ ?_
  rotate_left
  · intro w'; go_simp; with_reducible rfl
  rotate_left
  · simp only [pS, pN, sB, sZ, sS, i64_w, i32_w]; rfl
  refine pure_ (i := 10) (N := some 107) (v := ?_) (a' := ?_) (ba 20 1663) rfl rfl (any_of HT_.out (by kernel_rfl)) (fun _ _ _ h => hP _ _ _ _ _ h) (Or.inl ⟨by rfl, ?_⟩) ?_ ?_
  rotate_left
  · intro w'; go_simp; with_reducible rfl
  rotate_left
  · simp only [pS, pN, sB, sZ, sS, i64_w, i32_w]; rfl
  refine pure_ (i := 11) (N := some 108) (v := ?_) (a' := ?_) (ba 20 3711) rfl rfl (any_of HT_.out (by kernel_rfl)) (fun _ _ _ h => hP _ _ _ _ _ h) (Or.inl ⟨by rfl, ?_⟩) ?_ ?_
  rotate_left
  · intro w'; go_simp; with_reducible rfl
  rotate_left
  · simp only [pS, pN, sB, sZ, sS, i64_w, i32_w]; rfl
  refine pure_ (i := 12) (N := some 109) (v := ?_) (a' := ?_) (ba 20 7807) rfl rfl (any_of HT_.out (by kernel_rfl)) (fun _ _ _ h => hP _ _ _ _ _ h) (Or.inl ⟨by rfl, ?_⟩) ?_ ?_
  rotate_left
  · intro w'; go_simp; with_reducible rfl
  rotate_left
  · simp only [pS, pN, sB, sZ, sS, i64_w, i32_w]; rfl
  refine take_ (i := 13) (N := some 110) (v := ?_) (a' := ?_) (ba 20 15999) rfl rfl (take_ofW HT_.out HW_.out (by kernel_rfl)) (fun _ _ _ h => hP _ _ _ _ _ h) (Or.inl ⟨by rfl, ?_⟩) (HB0.out) ?_ ?_
  rotate_left
  · intro w' hS
    have hl_ := HB2.out w' (hS)
    go_simp
    with_reducible rfl
  rotate_left
  · simp only [pS, pN, sB, sZ, sS, i64_w, i32_w]; rfl
  refine pure_ (i := 14) (N := some 111) (v := ?_) (a' := ?_) (ba 20 32383) rfl rfl (any_of HT_.out (by kernel_rfl)) (fun _ _ _ h => hP _ _ _ _ _ h) (Or.inl ⟨by rfl, ?_⟩) ?_ ?_
  rotate_left
  · intro w'; go_simp; with_reducible rfl
  rotate_left
  · simp only [pS, pN, sB, sZ, sS, i64_w, i32_w]; rfl
  refine three_ (i := 7) (j := 8) (k := 18) (Ni := some 104) (Nj := some 105) (Nk := some 12) (ba 20 32511) (ba 20 32639) (ba 20 294527) rfl rfl rfl rfl rfl rfl (three_of HT_.out (by kernel_rfl)) (by decide) (by decide) (by decide) (fun K hK => ?_) (fun K hK => ?_) (fun K hK => ?_)
  ·skip
   refine goes_ Try.func35 (by kernel_rfl) rfl #[.int .i64 (wrap64 b1), .int .i64 60] (by rfl) rfl rfl (by (try simp only [List.map_toArray, List.map_cons, List.map_nil]); first | done | rfl) ?_
   with_reducible refine (roadsteadlaw10_text.calls k (wrap64 b1) 60 tx _ HX.out).mono ?_
   rintro e w1 ⟨rfl, hb0_⟩
   refine ⟨_, rfl, ?_⟩
   have hb2 := Aside0.mk hb0_
   clear hb0_
   have HB3 := Aside0.mk (below_step HB0.out hb2.out)
   refine hK.out _ _ (HB3.out) (fun _ => ?_)
   clear hK K
   refine norm_ (a' := ?_) ?_ ?_
   rotate_left
   · show Act.put _ (some 104) _ = _
     simp only [pS, pN, sB, sZ, sS]
     rfl
   refine two_ (i := 8) (j := 18) (Ni := some 105) (Nj := some 12) (ba 20 32767) (ba 20 294655) rfl rfl rfl rfl (two_of HT_.out (by kernel_rfl)) (by decide) (by decide) (fun K hK => ?_) (fun K hK => ?_)
   ·skip
    refine value_ (w1 := ?_) (v := ?_) (by rfl) rfl ?_ ?_
    rotate_left 2
    · go_simp
      constructor
      · rfl
      · rfl
    have hb4 := Aside0.mk ((Below.refl _ w1).alloc (Nat.le_refl _) (.cells #[.string ⟨#[]⟩, .string (⟨#[97, 61, 49]⟩ : ByteArray), .string (⟨#[98, 61, 50]⟩ : ByteArray)] 9))
    have HB5 := Aside0.mk (below_step HB3.out hb4.out)
    have L6 := Aside0.mk (HLA.out w1)
    generalize hW_ : w1.alloc (.cells #[.string ⟨#[]⟩, .string (⟨#[97, 61, 49]⟩ : ByteArray), .string (⟨#[98, 61, 50]⟩ : ByteArray)] 9) = w7 at *
    clear hW_
    refine hK.out _ _ (HB5.out) (fun _ => ?_)
    clear hK K
    refine norm_ (a' := ?_) ?_ ?_
    rotate_left
    · show Act.put _ (some 105) _ = _
      simp only [pS, pN, sB, sZ, sS]
      rfl
    refine restart_ (S2 := fun w' => Below w.heap.size w w' ∧ w'.cell? ⟨w1.heap.size, n1, none⟩ = some (.string s1)) (fun w' h => h.1) (⟨HB5.out, L6.out⟩) ?_
    refine pure_ (i := 15) (N := some 112) (v := ?_) (a' := ?_) (ba 20 65535) rfl rfl (any_of HT_.out (by kernel_rfl)) (fun _ _ _ h => hP _ _ _ _ _ h) (Or.inl ⟨by rfl, ?_⟩) ?_ ?_
    rotate_left
    · intro w'; go_simp; with_reducible rfl
    rotate_left
    · simp only [pS, pN, sB, sZ, sS, i64_w, i32_w]; rfl
    refine take_ (i := 16) (N := some 113) (v := ?_) (a' := ?_) (ba 20 131071) rfl rfl (take_ofW HT_.out HW_.out (by kernel_rfl)) (fun _ _ _ h => hP _ _ _ _ _ h) (Or.inl ⟨by rfl, ?_⟩) (⟨HB5.out, L6.out⟩) ?_ ?_
    rotate_left
    · intro w' hS
      have hl_ := hS.2
      go_simp
      with_reducible rfl
    rotate_left
    · simp only [pS, pN, sB, sZ, sS, i64_w, i32_w]; rfl
    refine pure_ (i := 17) (N := some 114) (v := ?_) (a' := ?_) (ba 20 262143) rfl rfl (any_of HT_.out (by kernel_rfl)) (fun _ _ _ h => hP _ _ _ _ _ h) (Or.inl ⟨by rfl, ?_⟩) ?_ ?_
    rotate_left
    · intro w'; go_simp; with_reducible rfl
    rotate_left
    · simp only [pS, pN, sB, sZ, sS, i64_w, i32_w]; rfl
    refine one_ (i := 18) (N := some 12) (ba 20 524287) rfl rfl (one_of HT_.out (by kernel_rfl)) (by decide) (fun K hK => ?_)
    refine value_ (w1 := ?_) (v := ?_) (by rfl) rfl ?_ ?_
    rotate_left 2
    · go_simp
      constructor
      · rfl
      · rfl
    have hb8 := Aside0.mk ((Below.refl _ w7).alloc (Nat.le_refl _) (.cells #[.int .i64 0, .string ⟨#[]⟩, .string ⟨#[]⟩, .int .i64 0, .int .i64 0, .bool false, .string ⟨#[]⟩, .int .i64 0] 68))
    have HB9 := Aside0.mk (below_step HB5.out hb8.out)
    have X10 := Aside0.mk (heap_alloc_new w7 (.cells #[.int .i64 0, .string ⟨#[]⟩, .string ⟨#[]⟩, .int .i64 0, .int .i64 0, .bool false, .string ⟨#[]⟩, .int .i64 0] 68))
    have L12 := Aside0.mk ((hb8.out.cell (p := ⟨w1.heap.size, n1, none⟩) (block_lt_of_cell L6.out)).trans L6.out)
    generalize hW_ : w7.alloc (.cells #[.int .i64 0, .string ⟨#[]⟩, .string ⟨#[]⟩, .int .i64 0, .int .i64 0, .bool false, .string ⟨#[]⟩, .int .i64 0] 68) = w11 at *
    clear hW_
    have NE13 := Aside0.mk (Nat.ne_of_gt (block_lt_of_cell L6.out))
    have GX14 := Aside0.mk (HB5.out.size)
    refine hK.out _ _ (⟨HB9.out, L12.out⟩) (fun _ => ?_)
    clear hK K
    refine norm_ (a' := ?_) ?_ ?_
    rotate_left
    · show Act.put _ (some 12) _ = _
      simp only [pS, pN, sB, sZ, sS]
      rfl
    refine one_ (i := 19) (N := none) (ba 20 1048575) rfl rfl (one_of HT_.out (by kernel_rfl)) (by decide) (fun K hK => ?_)
    rw [if_pos (by rfl)]
    refine wp_store_row 68 _ _ rfl (w7.heap.size) #[.int .i64 sq, .string tx, .string s1, .int .i64 0, .int .i64 0, .bool false, .string ⟨#[]⟩, .int .i64 0] rfl rfl 68 #[.int .i64 0, .string ⟨#[]⟩, .string ⟨#[]⟩, .int .i64 0, .int .i64 0, .bool false, .string ⟨#[]⟩, .int .i64 0] X10.out size68 rfl (one68 _ _ _ _ _ _ _ _) ?_
    have HB15 := Aside0.mk (below_setRow HB9.out GX14.out #[.int .i64 sq, .string tx, .string s1, .int .i64 0, .int .i64 0, .bool false, .string ⟨#[]⟩, .int .i64 0])
    have HF_ := Aside0.mk (setRow_heap _ _ _ #[.int .i64 sq, .string tx, .string s1, .int .i64 0, .int .i64 0, .bool false, .string ⟨#[]⟩, .int .i64 0] _ _ X10.out)
    have L16 := Aside0.mk ((cell_setRow_other _ _ #[.int .i64 sq, .string tx, .string s1, .int .i64 0, .int .i64 0, .bool false, .string ⟨#[]⟩, .int .i64 0] _ NE13.out.symm).trans L12.out)
    refine hK.out _ _ (⟨HB15.out, L16.out⟩) (fun _ => ?_)
    clear hK K
    refine done_ (done_of HT_.out (by kernel_rfl)) ?_
    exact HQ.out _ _ _ _ _ _ _ _ _ _ _ _ _ _ _ _ _ _ (w7.heap.size) _ GX14.out HB15.out HF_.out
   ·skip
    refine value_ (w1 := ?_) (v := ?_) (by rfl) rfl ?_ ?_
    rotate_left 2
    · go_simp
      constructor
      · rfl
      · rfl
    have hb17 := Aside0.mk ((Below.refl _ w1).alloc (Nat.le_refl _) (.cells #[.int .i64 0, .string ⟨#[]⟩, .string ⟨#[]⟩, .int .i64 0, .int .i64 0, .bool false, .string ⟨#[]⟩, .int .i64 0] 68))
    have HB18 := Aside0.mk (below_step HB3.out hb17.out)
    have X19 := Aside0.mk (heap_alloc_new w1 (.cells #[.int .i64 0, .string ⟨#[]⟩, .string ⟨#[]⟩, .int .i64 0, .int .i64 0, .bool false, .string ⟨#[]⟩, .int .i64 0] 68))
    generalize hW_ : w1.alloc (.cells #[.int .i64 0, .string ⟨#[]⟩, .string ⟨#[]⟩, .int .i64 0, .int .i64 0, .bool false, .string ⟨#[]⟩, .int .i64 0] 68) = w20 at *
    clear hW_
    have GX21 := Aside0.mk (HB3.out.size)
    refine hK.out _ _ (HB18.out) (fun _ => ?_)
    clear hK K
    refine norm_ (a' := ?_) ?_ ?_
    rotate_left
    · show Act.put _ (some 12) _ = _
      simp only [pS, pN, sB, sZ, sS]
      rfl
    refine one_ (i := 8) (N := some 105) (ba 20 294911) rfl rfl (one_of HT_.out (by kernel_rfl)) (by decide) (fun K hK => ?_)
    refine value_ (w1 := ?_) (v := ?_) (by rfl) rfl ?_ ?_
    rotate_left 2
    · go_simp
      constructor
      · rfl
      · rfl
    have hb22 := Aside0.mk ((Below.refl _ w20).alloc (Nat.le_refl _) (.cells #[.string ⟨#[]⟩, .string (⟨#[97, 61, 49]⟩ : ByteArray), .string (⟨#[98, 61, 50]⟩ : ByteArray)] 9))
    have HB23 := Aside0.mk (below_step HB18.out hb22.out)
    have L24 := Aside0.mk (HLA.out w20)
    have X26 := Aside0.mk ((hb22.out.block _ (Array.getElem?_eq_some_iff.1 X19.out).1).trans X19.out)
    generalize hW_ : w20.alloc (.cells #[.string ⟨#[]⟩, .string (⟨#[97, 61, 49]⟩ : ByteArray), .string (⟨#[98, 61, 50]⟩ : ByteArray)] 9) = w25 at *
    clear hW_
    have NE27 := Aside0.mk (Nat.ne_of_lt (Array.getElem?_eq_some_iff.1 X19.out).1)
    refine hK.out _ _ (HB23.out) (fun _ => ?_)
    clear hK K
    refine norm_ (a' := ?_) ?_ ?_
    rotate_left
    · show Act.put _ (some 105) _ = _
      simp only [pS, pN, sB, sZ, sS]
      rfl
    refine restart_ (S2 := fun w' => Below w.heap.size w w' ∧ w'.cell? ⟨w20.heap.size, n1, none⟩ = some (.string s1)) (fun w' h => h.1) (⟨HB23.out, L24.out⟩) ?_
    refine pure_ (i := 15) (N := some 112) (v := ?_) (a' := ?_) (ba 20 327679) rfl rfl (any_of HT_.out (by kernel_rfl)) (fun _ _ _ h => hP _ _ _ _ _ h) (Or.inl ⟨by rfl, ?_⟩) ?_ ?_
    rotate_left
    · intro w'; go_simp; with_reducible rfl
    rotate_left
    · simp only [pS, pN, sB, sZ, sS, i64_w, i32_w]; rfl
    refine take_ (i := 16) (N := some 113) (v := ?_) (a' := ?_) (ba 20 393215) rfl rfl (take_ofW HT_.out HW_.out (by kernel_rfl)) (fun _ _ _ h => hP _ _ _ _ _ h) (Or.inl ⟨by rfl, ?_⟩) (⟨HB23.out, L24.out⟩) ?_ ?_
    rotate_left
    · intro w' hS
      have hl_ := hS.2
      go_simp
      with_reducible rfl
    rotate_left
    · simp only [pS, pN, sB, sZ, sS, i64_w, i32_w]; rfl
    refine pure_ (i := 17) (N := some 114) (v := ?_) (a' := ?_) (ba 20 524287) rfl rfl (any_of HT_.out (by kernel_rfl)) (fun _ _ _ h => hP _ _ _ _ _ h) (Or.inl ⟨by rfl, ?_⟩) ?_ ?_
    rotate_left
    · intro w'; go_simp; with_reducible rfl
    rotate_left
    · simp only [pS, pN, sB, sZ, sS, i64_w, i32_w]; rfl
    refine one_ (i := 19) (N := none) (ba 20 1048575) rfl rfl (one_of HT_.out (by kernel_rfl)) (by decide) (fun K hK => ?_)
    rw [if_pos (by rfl)]
    refine wp_store_row 68 _ _ rfl (w1.heap.size) #[.int .i64 sq, .string tx, .string s1, .int .i64 0, .int .i64 0, .bool false, .string ⟨#[]⟩, .int .i64 0] rfl rfl 68 #[.int .i64 0, .string ⟨#[]⟩, .string ⟨#[]⟩, .int .i64 0, .int .i64 0, .bool false, .string ⟨#[]⟩, .int .i64 0] X26.out size68 rfl (one68 _ _ _ _ _ _ _ _) ?_
    have HB28 := Aside0.mk (below_setRow HB23.out GX21.out #[.int .i64 sq, .string tx, .string s1, .int .i64 0, .int .i64 0, .bool false, .string ⟨#[]⟩, .int .i64 0])
    have HF_ := Aside0.mk (setRow_heap _ _ _ #[.int .i64 sq, .string tx, .string s1, .int .i64 0, .int .i64 0, .bool false, .string ⟨#[]⟩, .int .i64 0] _ _ X26.out)
    have L29 := Aside0.mk ((cell_setRow_other _ _ #[.int .i64 sq, .string tx, .string s1, .int .i64 0, .int .i64 0, .bool false, .string ⟨#[]⟩, .int .i64 0] _ NE27.out.symm).trans L24.out)
    refine hK.out _ _ (⟨HB28.out, L29.out⟩) (fun _ => ?_)
    clear hK K
    refine done_ (done_of HT_.out (by kernel_rfl)) ?_
    exact HQ.out _ _ _ _ _ _ _ _ _ _ _ _ _ _ _ _ _ _ (w1.heap.size) _ GX21.out HB28.out HF_.out
  ·skip
   refine value_ (w1 := ?_) (v := ?_) (by rfl) rfl ?_ ?_
   rotate_left 2
   · go_simp
     constructor
     · rfl
     · rfl
   have hb30 := Aside0.mk ((Below.refl _ w0).alloc (Nat.le_refl _) (.cells #[.string ⟨#[]⟩, .string (⟨#[97, 61, 49]⟩ : ByteArray), .string (⟨#[98, 61, 50]⟩ : ByteArray)] 9))
   have HB31 := Aside0.mk (below_step HB0.out hb30.out)
   have L32 := Aside0.mk (HLA.out w0)
   generalize hW_ : w0.alloc (.cells #[.string ⟨#[]⟩, .string (⟨#[97, 61, 49]⟩ : ByteArray), .string (⟨#[98, 61, 50]⟩ : ByteArray)] 9) = w33 at *
   clear hW_
   refine hK.out _ _ (HB31.out) (fun _ => ?_)
   clear hK K
   refine norm_ (a' := ?_) ?_ ?_
   rotate_left
   · show Act.put _ (some 105) _ = _
     simp only [pS, pN, sB, sZ, sS]
     rfl
   refine restart_ (S2 := fun w' => Below w.heap.size w w' ∧ w'.cell? ⟨w0.heap.size, n1, none⟩ = some (.string s1)) (fun w' h => h.1) (⟨HB31.out, L32.out⟩) ?_
   refine pure_ (i := 15) (N := some 112) (v := ?_) (a' := ?_) (ba 20 65407) rfl rfl (any_of HT_.out (by kernel_rfl)) (fun _ _ _ h => hP _ _ _ _ _ h) (Or.inl ⟨by rfl, ?_⟩) ?_ ?_
   rotate_left
   · intro w'; go_simp; with_reducible rfl
   rotate_left
   · simp only [pS, pN, sB, sZ, sS, i64_w, i32_w]; rfl
   refine take_ (i := 16) (N := some 113) (v := ?_) (a' := ?_) (ba 20 130943) rfl rfl (take_ofW HT_.out HW_.out (by kernel_rfl)) (fun _ _ _ h => hP _ _ _ _ _ h) (Or.inl ⟨by rfl, ?_⟩) (⟨HB31.out, L32.out⟩) ?_ ?_
   rotate_left
   · intro w' hS
     have hl_ := hS.2
     go_simp
     with_reducible rfl
   rotate_left
   · simp only [pS, pN, sB, sZ, sS, i64_w, i32_w]; rfl
   refine two_ (i := 7) (j := 18) (Ni := some 104) (Nj := some 12) (ba 20 131071) (ba 20 393087) rfl rfl rfl rfl (two_of HT_.out (by kernel_rfl)) (by decide) (by decide) (fun K hK => ?_) (fun K hK => ?_)
   ·skip
    refine goes_ Try.func35 (by kernel_rfl) rfl #[.int .i64 (wrap64 b1), .int .i64 60] (by rfl) rfl rfl (by (try simp only [List.map_toArray, List.map_cons, List.map_nil]); first | done | rfl) ?_
    with_reducible refine (roadsteadlaw10_text.calls k (wrap64 b1) 60 tx _ HX.out).mono ?_
    rintro e w34 ⟨rfl, hb0_⟩
    refine ⟨_, rfl, ?_⟩
    have hb35 := Aside0.mk hb0_
    clear hb0_
    have HB36 := Aside0.mk (below_step HB31.out hb35.out)
    have L37 := Aside0.mk ((hb35.out.cell (p := ⟨w0.heap.size, n1, none⟩) (block_lt_of_cell L32.out)).trans L32.out)
    refine hK.out _ _ (⟨HB36.out, L37.out⟩) (fun _ => ?_)
    clear hK K
    refine norm_ (a' := ?_) ?_ ?_
    rotate_left
    · show Act.put _ (some 104) _ = _
      simp only [pS, pN, sB, sZ, sS]
      rfl
    refine pure_ (i := 17) (N := some 114) (v := ?_) (a' := ?_) (ba 20 262143) rfl rfl (any_of HT_.out (by kernel_rfl)) (fun _ _ _ h => hP _ _ _ _ _ h) (Or.inl ⟨by rfl, ?_⟩) ?_ ?_
    rotate_left
    · intro w'; go_simp; with_reducible rfl
    rotate_left
    · simp only [pS, pN, sB, sZ, sS, i64_w, i32_w]; rfl
    refine one_ (i := 18) (N := some 12) (ba 20 524287) rfl rfl (one_of HT_.out (by kernel_rfl)) (by decide) (fun K hK => ?_)
    refine value_ (w1 := ?_) (v := ?_) (by rfl) rfl ?_ ?_
    rotate_left 2
    · go_simp
      constructor
      · rfl
      · rfl
    have hb38 := Aside0.mk ((Below.refl _ w34).alloc (Nat.le_refl _) (.cells #[.int .i64 0, .string ⟨#[]⟩, .string ⟨#[]⟩, .int .i64 0, .int .i64 0, .bool false, .string ⟨#[]⟩, .int .i64 0] 68))
    have HB39 := Aside0.mk (below_step HB36.out hb38.out)
    have X40 := Aside0.mk (heap_alloc_new w34 (.cells #[.int .i64 0, .string ⟨#[]⟩, .string ⟨#[]⟩, .int .i64 0, .int .i64 0, .bool false, .string ⟨#[]⟩, .int .i64 0] 68))
    have L42 := Aside0.mk ((hb38.out.cell (p := ⟨w0.heap.size, n1, none⟩) (block_lt_of_cell L37.out)).trans L37.out)
    generalize hW_ : w34.alloc (.cells #[.int .i64 0, .string ⟨#[]⟩, .string ⟨#[]⟩, .int .i64 0, .int .i64 0, .bool false, .string ⟨#[]⟩, .int .i64 0] 68) = w41 at *
    clear hW_
    have NE43 := Aside0.mk (Nat.ne_of_gt (block_lt_of_cell L37.out))
    have GX44 := Aside0.mk (HB36.out.size)
    refine hK.out _ _ (⟨HB39.out, L42.out⟩) (fun _ => ?_)
    clear hK K
    refine norm_ (a' := ?_) ?_ ?_
    rotate_left
    · show Act.put _ (some 12) _ = _
      simp only [pS, pN, sB, sZ, sS]
      rfl
    refine one_ (i := 19) (N := none) (ba 20 1048575) rfl rfl (one_of HT_.out (by kernel_rfl)) (by decide) (fun K hK => ?_)
    rw [if_pos (by rfl)]
    refine wp_store_row 68 _ _ rfl (w34.heap.size) #[.int .i64 sq, .string tx, .string s1, .int .i64 0, .int .i64 0, .bool false, .string ⟨#[]⟩, .int .i64 0] rfl rfl 68 #[.int .i64 0, .string ⟨#[]⟩, .string ⟨#[]⟩, .int .i64 0, .int .i64 0, .bool false, .string ⟨#[]⟩, .int .i64 0] X40.out size68 rfl (one68 _ _ _ _ _ _ _ _) ?_
    have HB45 := Aside0.mk (below_setRow HB39.out GX44.out #[.int .i64 sq, .string tx, .string s1, .int .i64 0, .int .i64 0, .bool false, .string ⟨#[]⟩, .int .i64 0])
    have HF_ := Aside0.mk (setRow_heap _ _ _ #[.int .i64 sq, .string tx, .string s1, .int .i64 0, .int .i64 0, .bool false, .string ⟨#[]⟩, .int .i64 0] _ _ X40.out)
    have L46 := Aside0.mk ((cell_setRow_other _ _ #[.int .i64 sq, .string tx, .string s1, .int .i64 0, .int .i64 0, .bool false, .string ⟨#[]⟩, .int .i64 0] _ NE43.out.symm).trans L42.out)
    refine hK.out _ _ (⟨HB45.out, L46.out⟩) (fun _ => ?_)
    clear hK K
    refine done_ (done_of HT_.out (by kernel_rfl)) ?_
    exact HQ.out _ _ _ _ _ _ _ _ _ _ _ _ _ _ _ _ _ _ (w34.heap.size) _ GX44.out HB45.out HF_.out
   ·skip
    refine value_ (w1 := ?_) (v := ?_) (by rfl) rfl ?_ ?_
    rotate_left 2
    · go_simp
      constructor
      · rfl
      · rfl
    have hb47 := Aside0.mk ((Below.refl _ w33).alloc (Nat.le_refl _) (.cells #[.int .i64 0, .string ⟨#[]⟩, .string ⟨#[]⟩, .int .i64 0, .int .i64 0, .bool false, .string ⟨#[]⟩, .int .i64 0] 68))
    have HB48 := Aside0.mk (below_step HB31.out hb47.out)
    have X49 := Aside0.mk (heap_alloc_new w33 (.cells #[.int .i64 0, .string ⟨#[]⟩, .string ⟨#[]⟩, .int .i64 0, .int .i64 0, .bool false, .string ⟨#[]⟩, .int .i64 0] 68))
    have L51 := Aside0.mk ((hb47.out.cell (p := ⟨w0.heap.size, n1, none⟩) (block_lt_of_cell L32.out)).trans L32.out)
    generalize hW_ : w33.alloc (.cells #[.int .i64 0, .string ⟨#[]⟩, .string ⟨#[]⟩, .int .i64 0, .int .i64 0, .bool false, .string ⟨#[]⟩, .int .i64 0] 68) = w50 at *
    clear hW_
    have NE52 := Aside0.mk (Nat.ne_of_gt (block_lt_of_cell L32.out))
    have GX53 := Aside0.mk (HB31.out.size)
    refine hK.out _ _ (⟨HB48.out, L51.out⟩) (fun _ => ?_)
    clear hK K
    refine norm_ (a' := ?_) ?_ ?_
    rotate_left
    · show Act.put _ (some 12) _ = _
      simp only [pS, pN, sB, sZ, sS]
      rfl
    refine one_ (i := 7) (N := some 104) (ba 20 393215) rfl rfl (one_of HT_.out (by kernel_rfl)) (by decide) (fun K hK => ?_)
    refine goes_ Try.func35 (by kernel_rfl) rfl #[.int .i64 (wrap64 b1), .int .i64 60] (by rfl) rfl rfl (by (try simp only [List.map_toArray, List.map_cons, List.map_nil]); first | done | rfl) ?_
    with_reducible refine (roadsteadlaw10_text.calls k (wrap64 b1) 60 tx _ HX.out).mono ?_
    rintro e w54 ⟨rfl, hb0_⟩
    refine ⟨_, rfl, ?_⟩
    have hb55 := Aside0.mk hb0_
    clear hb0_
    have HB56 := Aside0.mk (below_step HB48.out hb55.out)
    have L57 := Aside0.mk ((hb55.out.cell (p := ⟨w0.heap.size, n1, none⟩) (block_lt_of_cell L51.out)).trans L51.out)
    have X58 := Aside0.mk ((hb55.out.block _ (Array.getElem?_eq_some_iff.1 X49.out).1).trans X49.out)
    refine hK.out _ _ (⟨HB56.out, L57.out⟩) (fun _ => ?_)
    clear hK K
    refine norm_ (a' := ?_) ?_ ?_
    rotate_left
    · show Act.put _ (some 104) _ = _
      simp only [pS, pN, sB, sZ, sS]
      rfl
    refine pure_ (i := 17) (N := some 114) (v := ?_) (a' := ?_) (ba 20 524287) rfl rfl (any_of HT_.out (by kernel_rfl)) (fun _ _ _ h => hP _ _ _ _ _ h) (Or.inl ⟨by rfl, ?_⟩) ?_ ?_
    rotate_left
    · intro w'; go_simp; with_reducible rfl
    rotate_left
    · simp only [pS, pN, sB, sZ, sS, i64_w, i32_w]; rfl
    refine one_ (i := 19) (N := none) (ba 20 1048575) rfl rfl (one_of HT_.out (by kernel_rfl)) (by decide) (fun K hK => ?_)
    rw [if_pos (by rfl)]
    refine wp_store_row 68 _ _ rfl (w33.heap.size) #[.int .i64 sq, .string tx, .string s1, .int .i64 0, .int .i64 0, .bool false, .string ⟨#[]⟩, .int .i64 0] rfl rfl 68 #[.int .i64 0, .string ⟨#[]⟩, .string ⟨#[]⟩, .int .i64 0, .int .i64 0, .bool false, .string ⟨#[]⟩, .int .i64 0] X58.out size68 rfl (one68 _ _ _ _ _ _ _ _) ?_
    have HB59 := Aside0.mk (below_setRow HB56.out GX53.out #[.int .i64 sq, .string tx, .string s1, .int .i64 0, .int .i64 0, .bool false, .string ⟨#[]⟩, .int .i64 0])
    have HF_ := Aside0.mk (setRow_heap _ _ _ #[.int .i64 sq, .string tx, .string s1, .int .i64 0, .int .i64 0, .bool false, .string ⟨#[]⟩, .int .i64 0] _ _ X58.out)
    have L60 := Aside0.mk ((cell_setRow_other _ _ #[.int .i64 sq, .string tx, .string s1, .int .i64 0, .int .i64 0, .bool false, .string ⟨#[]⟩, .int .i64 0] _ NE52.out.symm).trans L57.out)
    refine hK.out _ _ (⟨HB59.out, L60.out⟩) (fun _ => ?_)
    clear hK K
    refine done_ (done_of HT_.out (by kernel_rfl)) ?_
    exact HQ.out _ _ _ _ _ _ _ _ _ _ _ _ _ _ _ _ _ _ (w33.heap.size) _ GX53.out HB59.out HF_.out
  ·skip
   refine value_ (w1 := ?_) (v := ?_) (by rfl) rfl ?_ ?_
   rotate_left 2
   · go_simp
     constructor
     · rfl
     · rfl
   have hb61 := Aside0.mk ((Below.refl _ w0).alloc (Nat.le_refl _) (.cells #[.int .i64 0, .string ⟨#[]⟩, .string ⟨#[]⟩, .int .i64 0, .int .i64 0, .bool false, .string ⟨#[]⟩, .int .i64 0] 68))
   have HB62 := Aside0.mk (below_step HB0.out hb61.out)
   have X63 := Aside0.mk (heap_alloc_new w0 (.cells #[.int .i64 0, .string ⟨#[]⟩, .string ⟨#[]⟩, .int .i64 0, .int .i64 0, .bool false, .string ⟨#[]⟩, .int .i64 0] 68))
   generalize hW_ : w0.alloc (.cells #[.int .i64 0, .string ⟨#[]⟩, .string ⟨#[]⟩, .int .i64 0, .int .i64 0, .bool false, .string ⟨#[]⟩, .int .i64 0] 68) = w64 at *
   clear hW_
   have GX65 := Aside0.mk (HB0.out.size)
   refine hK.out _ _ (HB62.out) (fun _ => ?_)
   clear hK K
   refine norm_ (a' := ?_) ?_ ?_
   rotate_left
   · show Act.put _ (some 12) _ = _
     simp only [pS, pN, sB, sZ, sS]
     rfl
   refine two_ (i := 7) (j := 8) (Ni := some 104) (Nj := some 105) (ba 20 294655) (ba 20 294783) rfl rfl rfl rfl (two_of HT_.out (by kernel_rfl)) (by decide) (by decide) (fun K hK => ?_) (fun K hK => ?_)
   ·skip
    refine goes_ Try.func35 (by kernel_rfl) rfl #[.int .i64 (wrap64 b1), .int .i64 60] (by rfl) rfl rfl (by (try simp only [List.map_toArray, List.map_cons, List.map_nil]); first | done | rfl) ?_
    with_reducible refine (roadsteadlaw10_text.calls k (wrap64 b1) 60 tx _ HX.out).mono ?_
    rintro e w66 ⟨rfl, hb0_⟩
    refine ⟨_, rfl, ?_⟩
    have hb67 := Aside0.mk hb0_
    clear hb0_
    have HB68 := Aside0.mk (below_step HB62.out hb67.out)
    have X69 := Aside0.mk ((hb67.out.block _ (Array.getElem?_eq_some_iff.1 X63.out).1).trans X63.out)
    refine hK.out _ _ (HB68.out) (fun _ => ?_)
    clear hK K
    refine norm_ (a' := ?_) ?_ ?_
    rotate_left
    · show Act.put _ (some 104) _ = _
      simp only [pS, pN, sB, sZ, sS]
      rfl
    refine one_ (i := 8) (N := some 105) (ba 20 294911) rfl rfl (one_of HT_.out (by kernel_rfl)) (by decide) (fun K hK => ?_)
    refine value_ (w1 := ?_) (v := ?_) (by rfl) rfl ?_ ?_
    rotate_left 2
    · go_simp
      constructor
      · rfl
      · rfl
    have hb70 := Aside0.mk ((Below.refl _ w66).alloc (Nat.le_refl _) (.cells #[.string ⟨#[]⟩, .string (⟨#[97, 61, 49]⟩ : ByteArray), .string (⟨#[98, 61, 50]⟩ : ByteArray)] 9))
    have HB71 := Aside0.mk (below_step HB68.out hb70.out)
    have L72 := Aside0.mk (HLA.out w66)
    have X74 := Aside0.mk ((hb70.out.block _ (Array.getElem?_eq_some_iff.1 X69.out).1).trans X69.out)
    generalize hW_ : w66.alloc (.cells #[.string ⟨#[]⟩, .string (⟨#[97, 61, 49]⟩ : ByteArray), .string (⟨#[98, 61, 50]⟩ : ByteArray)] 9) = w73 at *
    clear hW_
    have NE75 := Aside0.mk (Nat.ne_of_lt (Array.getElem?_eq_some_iff.1 X69.out).1)
    refine hK.out _ _ (HB71.out) (fun _ => ?_)
    clear hK K
    refine norm_ (a' := ?_) ?_ ?_
    rotate_left
    · show Act.put _ (some 105) _ = _
      simp only [pS, pN, sB, sZ, sS]
      rfl
    refine restart_ (S2 := fun w' => Below w.heap.size w w' ∧ w'.cell? ⟨w66.heap.size, n1, none⟩ = some (.string s1)) (fun w' h => h.1) (⟨HB71.out, L72.out⟩) ?_
    refine pure_ (i := 15) (N := some 112) (v := ?_) (a' := ?_) (ba 20 327679) rfl rfl (any_of HT_.out (by kernel_rfl)) (fun _ _ _ h => hP _ _ _ _ _ h) (Or.inl ⟨by rfl, ?_⟩) ?_ ?_
    rotate_left
    · intro w'; go_simp; with_reducible rfl
    rotate_left
    · simp only [pS, pN, sB, sZ, sS, i64_w, i32_w]; rfl
    refine take_ (i := 16) (N := some 113) (v := ?_) (a' := ?_) (ba 20 393215) rfl rfl (take_ofW HT_.out HW_.out (by kernel_rfl)) (fun _ _ _ h => hP _ _ _ _ _ h) (Or.inl ⟨by rfl, ?_⟩) (⟨HB71.out, L72.out⟩) ?_ ?_
    rotate_left
    · intro w' hS
      have hl_ := hS.2
      go_simp
      with_reducible rfl
    rotate_left
    · simp only [pS, pN, sB, sZ, sS, i64_w, i32_w]; rfl
    refine pure_ (i := 17) (N := some 114) (v := ?_) (a' := ?_) (ba 20 524287) rfl rfl (any_of HT_.out (by kernel_rfl)) (fun _ _ _ h => hP _ _ _ _ _ h) (Or.inl ⟨by rfl, ?_⟩) ?_ ?_
    rotate_left
    · intro w'; go_simp; with_reducible rfl
    rotate_left
    · simp only [pS, pN, sB, sZ, sS, i64_w, i32_w]; rfl
    refine one_ (i := 19) (N := none) (ba 20 1048575) rfl rfl (one_of HT_.out (by kernel_rfl)) (by decide) (fun K hK => ?_)
    rw [if_pos (by rfl)]
    refine wp_store_row 68 _ _ rfl (w0.heap.size) #[.int .i64 sq, .string tx, .string s1, .int .i64 0, .int .i64 0, .bool false, .string ⟨#[]⟩, .int .i64 0] rfl rfl 68 #[.int .i64 0, .string ⟨#[]⟩, .string ⟨#[]⟩, .int .i64 0, .int .i64 0, .bool false, .string ⟨#[]⟩, .int .i64 0] X74.out size68 rfl (one68 _ _ _ _ _ _ _ _) ?_
    have HB76 := Aside0.mk (below_setRow HB71.out GX65.out #[.int .i64 sq, .string tx, .string s1, .int .i64 0, .int .i64 0, .bool false, .string ⟨#[]⟩, .int .i64 0])
    have HF_ := Aside0.mk (setRow_heap _ _ _ #[.int .i64 sq, .string tx, .string s1, .int .i64 0, .int .i64 0, .bool false, .string ⟨#[]⟩, .int .i64 0] _ _ X74.out)
    have L77 := Aside0.mk ((cell_setRow_other _ _ #[.int .i64 sq, .string tx, .string s1, .int .i64 0, .int .i64 0, .bool false, .string ⟨#[]⟩, .int .i64 0] _ NE75.out.symm).trans L72.out)
    refine hK.out _ _ (⟨HB76.out, L77.out⟩) (fun _ => ?_)
    clear hK K
    refine done_ (done_of HT_.out (by kernel_rfl)) ?_
    exact HQ.out _ _ _ _ _ _ _ _ _ _ _ _ _ _ _ _ _ _ (w0.heap.size) _ GX65.out HB76.out HF_.out
   ·skip
    refine value_ (w1 := ?_) (v := ?_) (by rfl) rfl ?_ ?_
    rotate_left 2
    · go_simp
      constructor
      · rfl
      · rfl
    have hb78 := Aside0.mk ((Below.refl _ w64).alloc (Nat.le_refl _) (.cells #[.string ⟨#[]⟩, .string (⟨#[97, 61, 49]⟩ : ByteArray), .string (⟨#[98, 61, 50]⟩ : ByteArray)] 9))
    have HB79 := Aside0.mk (below_step HB62.out hb78.out)
    have L80 := Aside0.mk (HLA.out w64)
    have X82 := Aside0.mk ((hb78.out.block _ (Array.getElem?_eq_some_iff.1 X63.out).1).trans X63.out)
    generalize hW_ : w64.alloc (.cells #[.string ⟨#[]⟩, .string (⟨#[97, 61, 49]⟩ : ByteArray), .string (⟨#[98, 61, 50]⟩ : ByteArray)] 9) = w81 at *
    clear hW_
    have NE83 := Aside0.mk (Nat.ne_of_lt (Array.getElem?_eq_some_iff.1 X63.out).1)
    refine hK.out _ _ (HB79.out) (fun _ => ?_)
    clear hK K
    refine norm_ (a' := ?_) ?_ ?_
    rotate_left
    · show Act.put _ (some 105) _ = _
      simp only [pS, pN, sB, sZ, sS]
      rfl
    refine restart_ (S2 := fun w' => Below w.heap.size w w' ∧ w'.cell? ⟨w64.heap.size, n1, none⟩ = some (.string s1)) (fun w' h => h.1) (⟨HB79.out, L80.out⟩) ?_
    refine pure_ (i := 15) (N := some 112) (v := ?_) (a' := ?_) (ba 20 327551) rfl rfl (any_of HT_.out (by kernel_rfl)) (fun _ _ _ h => hP _ _ _ _ _ h) (Or.inl ⟨by rfl, ?_⟩) ?_ ?_
    rotate_left
    · intro w'; go_simp; with_reducible rfl
    rotate_left
    · simp only [pS, pN, sB, sZ, sS, i64_w, i32_w]; rfl
    refine take_ (i := 16) (N := some 113) (v := ?_) (a' := ?_) (ba 20 393087) rfl rfl (take_ofW HT_.out HW_.out (by kernel_rfl)) (fun _ _ _ h => hP _ _ _ _ _ h) (Or.inl ⟨by rfl, ?_⟩) (⟨HB79.out, L80.out⟩) ?_ ?_
    rotate_left
    · intro w' hS
      have hl_ := hS.2
      go_simp
      with_reducible rfl
    rotate_left
    · simp only [pS, pN, sB, sZ, sS, i64_w, i32_w]; rfl
    refine one_ (i := 7) (N := some 104) (ba 20 393215) rfl rfl (one_of HT_.out (by kernel_rfl)) (by decide) (fun K hK => ?_)
    refine goes_ Try.func35 (by kernel_rfl) rfl #[.int .i64 (wrap64 b1), .int .i64 60] (by rfl) rfl rfl (by (try simp only [List.map_toArray, List.map_cons, List.map_nil]); first | done | rfl) ?_
    with_reducible refine (roadsteadlaw10_text.calls k (wrap64 b1) 60 tx _ HX.out).mono ?_
    rintro e w84 ⟨rfl, hb0_⟩
    refine ⟨_, rfl, ?_⟩
    have hb85 := Aside0.mk hb0_
    clear hb0_
    have HB86 := Aside0.mk (below_step HB79.out hb85.out)
    have L87 := Aside0.mk ((hb85.out.cell (p := ⟨w64.heap.size, n1, none⟩) (block_lt_of_cell L80.out)).trans L80.out)
    have X88 := Aside0.mk ((hb85.out.block _ (Array.getElem?_eq_some_iff.1 X82.out).1).trans X82.out)
    refine hK.out _ _ (⟨HB86.out, L87.out⟩) (fun _ => ?_)
    clear hK K
    refine norm_ (a' := ?_) ?_ ?_
    rotate_left
    · show Act.put _ (some 104) _ = _
      simp only [pS, pN, sB, sZ, sS]
      rfl
    refine pure_ (i := 17) (N := some 114) (v := ?_) (a' := ?_) (ba 20 524287) rfl rfl (any_of HT_.out (by kernel_rfl)) (fun _ _ _ h => hP _ _ _ _ _ h) (Or.inl ⟨by rfl, ?_⟩) ?_ ?_
    rotate_left
    · intro w'; go_simp; with_reducible rfl
    rotate_left
    · simp only [pS, pN, sB, sZ, sS, i64_w, i32_w]; rfl
    refine one_ (i := 19) (N := none) (ba 20 1048575) rfl rfl (one_of HT_.out (by kernel_rfl)) (by decide) (fun K hK => ?_)
    rw [if_pos (by rfl)]
    refine wp_store_row 68 _ _ rfl (w0.heap.size) #[.int .i64 sq, .string tx, .string s1, .int .i64 0, .int .i64 0, .bool false, .string ⟨#[]⟩, .int .i64 0] rfl rfl 68 #[.int .i64 0, .string ⟨#[]⟩, .string ⟨#[]⟩, .int .i64 0, .int .i64 0, .bool false, .string ⟨#[]⟩, .int .i64 0] X88.out size68 rfl (one68 _ _ _ _ _ _ _ _) ?_
    have HB89 := Aside0.mk (below_setRow HB86.out GX65.out #[.int .i64 sq, .string tx, .string s1, .int .i64 0, .int .i64 0, .bool false, .string ⟨#[]⟩, .int .i64 0])
    have HF_ := Aside0.mk (setRow_heap _ _ _ #[.int .i64 sq, .string tx, .string s1, .int .i64 0, .int .i64 0, .bool false, .string ⟨#[]⟩, .int .i64 0] _ _ X88.out)
    have L90 := Aside0.mk ((cell_setRow_other _ _ #[.int .i64 sq, .string tx, .string s1, .int .i64 0, .int .i64 0, .bool false, .string ⟨#[]⟩, .int .i64 0] _ NE83.out.symm).trans L87.out)
    refine hK.out _ _ (⟨HB89.out, L90.out⟩) (fun _ => ?_)
    clear hK K
    refine done_ (done_of HT_.out (by kernel_rfl)) ?_
    exact HQ.out _ _ _ _ _ _ _ _ _ _ _ _ _ _ _ _ _ _ (w0.heap.size) _ GX65.out HB89.out HF_.out
end Go.Proofs.Ytajfefjmfelnbaa
