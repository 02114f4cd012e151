/- chunk.Unwrap of the given program: its walk. -/
import Derived.Test.YtpnlpbbnakplhaaDoorSeqF
import Derived.Test.YtpnlpbbnakplhaaDoorLabels
namespace Go.Proofs.YtpnlpbbnakplhaaDoor
open Go.RowKit Go.Shelf Go.Proofs.YtpnlpbbnakplhaaDoorW.PrintWords Go.Proofs.YtpnlpbbnakplhaaDoorW.PrintLast Go.Proofs.YtpnlpbbnakplhaaDoorW.PrintMore Go.Proofs.YtpnlpbbnakplhaaDoor.BRight
set_option linter.unusedVariables false
/-! ### Plain -/
/-- What is left to say when some bytes have come. -/
def contU (b o : List Int) : Except Nat (List Int × List Int) → Except Nat (List Int)
  | .error e => .error e
  | .ok (o2, rest) => if rest.length < 32 then .error 10 else if Z.dig (b.take (b.length - rest.length)) ≠ rest.take 32 then .error 12 else if rest.length > 32 then .error 11 else .ok (o ++ o2)
def outU : Except Nat (List Int) → List Int | .ok o => o | .error _ => []
def errU : Except Nat (List Int) → Nat | .ok _ => 0 | .error e => e
theorem unwrap_open (b : List Int) (h1 : 12 ≤ b.length) (h2 : ChunkPure.Right Z (b.take 12)) (h3 : b.take 4 = ChunkPure.mark) (h4 : ChunkPure.num b ≤ 1048576) :
    ChunkPure.unwrap Z b = contU b [] (ChunkPure.chunks Z (ChunkPure.num b).toNat 0 (ChunkPure.num b).toNat (b.drop 12)) := by
  unfold ChunkPure.unwrap
  rw [if_neg (by omega), if_neg (fun h => h h2), if_neg (fun h => h h3), if_neg (by omega)]
  cases ChunkPure.chunks Z (ChunkPure.num b).toNat 0 (ChunkPure.num b).toNat (b.drop 12) with
  | error e => rfl
  | ok y =>
    obtain ⟨o2, rest⟩ := y
    simp only [contU, List.nil_append]
theorem contU_cons (b o x : List Int) (y : Except Nat (List Int × List Int)) : contU b o (match y with | .ok (out, r) => .ok (x ++ out, r) | .error e => .error e) = contU b (o ++ x) y := by
  cases y with
  | error e => rfl
  | ok y =>
    obtain ⟨o2, rest⟩ := y
    simp only [contU, List.append_assoc]
/-- One chunk. -/
theorem chunk_step (b o rest : List Int) (d i m : Nat) (hm : 0 < m) (hd : m ≤ d) (R : Except Nat (List Int)) (h : R = contU b o (ChunkPure.chunks Z d i m rest)) :
    (rest.length < min m 100 + 7 → R = .error 10) ∧ (min m 100 + 7 ≤ rest.length → ¬ ChunkPure.Right Z (rest.take (min m 100 + 7)) → R = .error 12) ∧
    (min m 100 + 7 ≤ rest.length → ChunkPure.Right Z (rest.take (min m 100 + 7)) → (rest.getD 0 0 * 256 + rest.getD 1 0 ≠ i ∨ rest.getD 2 0 ≠ (min m 100 : Nat)) → R = .error 11) ∧
    (min m 100 + 7 ≤ rest.length → ChunkPure.Right Z (rest.take (min m 100 + 7)) → ¬ (rest.getD 0 0 * 256 + rest.getD 1 0 ≠ i ∨ rest.getD 2 0 ≠ (min m 100 : Nat)) → R = contU b (o ++ (rest.drop 3).take (min m 100)) (ChunkPure.chunks Z (d - 1) (i + 1) (m - min m 100) (rest.drop (min m 100 + 7)))) := by
  cases d with
  | zero => omega
  | succ d =>
    rw [ChunkPure.chunks, if_neg (by omega)] at h
    refine ⟨fun h1 => by rw [h, if_pos h1]; rfl, fun h1 h2 => by rw [h, if_neg (by omega), if_pos h2]; rfl, fun h1 h2 h3 => by rw [h, if_neg (by omega), if_neg (fun hh => hh h2), if_pos h3]; rfl, fun h1 h2 h3 => ?_⟩
    rw [h, if_neg (by omega), if_neg (fun hh => hh h2), if_neg h3]
    rw [Nat.add_sub_cancel]
    cases ChunkPure.chunks Z d (i + 1) (m - min m 100) (rest.drop (min m 100 + 7)) with
    | error e => rfl
    | ok y =>
      obtain ⟨o2, r⟩ := y
      simp only [contU, List.append_assoc]
theorem bits_or_nat64 (a b : Nat) (ha : a < 4611686018427387904) (hb : b < 4611686018427387904) : Go.bits .or .i64 (a : Int) (b : Int) = ((a ||| b : Nat) : Int) := by
  have hx : a ||| b < 2 ^ 62 := Nat.or_lt_two_pow (by omega) (by omega)
  have h1 : (BitVec.ofInt 64 (a : Int)).toNat = a := by
    rw [BitVec.ofInt_natCast, BitVec.toNat_ofNat]; exact Nat.mod_eq_of_lt (by omega)
  have h2 : (BitVec.ofInt 64 (b : Int)).toNat = b := by
    rw [BitVec.ofInt_natCast, BitVec.toNat_ofNat]; exact Nat.mod_eq_of_lt (by omega)
  show IntKind.i64.wrap ((BitVec.ofInt 64 (a : Int) ||| BitVec.ofInt 64 (b : Int)).toNat : Int) = _
  rw [BitVec.toNat_or, h1, h2, IntKind.wrap_i64]
  omega
theorem or_byte (x y : Int) (hx : 0 ≤ x ∧ x < 1099511627776) (hy : 0 ≤ y ∧ y < 256) : Go.bits .or .i64 (x * 256) y = x * 256 + y := by
  obtain ⟨a, rfl⟩ := Int.eq_ofNat_of_zero_le hx.1
  obtain ⟨b, rfl⟩ := Int.eq_ofNat_of_zero_le hy.1
  have h := bits_or_nat64 (a * 256) b (by omega) (by omega)
  rw [show ((a : Int) * 256) = ((a * 256 : Nat) : Int) by omega, h]
  have hs := Nat.shiftLeft_add_eq_or_of_lt (b := b) (i := 8) (by omega) a
  rw [Nat.shiftLeft_eq] at hs
  rw [show a * 256 = a * 2 ^ 8 from rfl, ← hs]
  omega
def numTo (b : List Int) : Nat → Int
  | 0 => 0
  | j + 1 => numTo b j * 256 + b.getD (4 + j) 0
theorem byte_getD {b : List Int} (hb : Bytes b) (j : Nat) : 0 ≤ b.getD j 0 ∧ b.getD j 0 < 256 := by
  rcases Nat.lt_or_ge j b.length with h | h
  · have := hb _ (List.getElem_mem h)
    rw [List.getD_eq_getElem?_getD, List.getElem?_eq_getElem h]
    exact this
  · rw [List.getD_eq_getElem?_getD, List.getElem?_eq_none h]
    exact ⟨by decide, by decide⟩
theorem numTo_range {b : List Int} (hb : Bytes b) : ∀ j, 0 ≤ numTo b j ∧ numTo b j < 256 ^ j
  | 0 => ⟨Int.le_refl _, by show (0 : Int) < 1; decide⟩
  | j + 1 => by
    have h1 := numTo_range hb j
    have h2 := byte_getD hb (4 + j)
    rw [numTo, Int.pow_succ]
    omega
theorem numTo_four (b : List Int) : numTo b 4 = ChunkPure.num b := by
  simp only [numTo, ChunkPure.num, Nat.add_zero, Nat.reduceAdd]
  omega
theorem lit112 (u : Nat → Value) : (List.range 112).map u = [u 0, u 1, u 2, u 3, u 4, u 5, u 6, u 7, u 8, u 9, u 10, u 11, u 12, u 13, u 14, u 15, u 16, u 17, u 18, u 19, u 20, u 21, u 22, u 23, u 24, u 25, u 26, u 27, u 28, u 29, u 30, u 31, u 32, u 33, u 34, u 35, u 36, u 37, u 38, u 39, u 40, u 41, u 42, u 43, u 44, u 45, u 46, u 47, u 48, u 49, u 50, u 51, u 52, u 53, u 54, u 55, u 56, u 57, u 58, u 59, u 60, u 61, u 62, u 63, u 64, u 65, u 66, u 67, u 68, u 69, u 70, u 71, u 72, u 73, u 74, u 75, u 76, u 77, u 78, u 79, u 80, u 81, u 82, u 83, u 84, u 85, u 86, u 87, u 88, u 89, u 90, u 91, u 92, u 93, u 94, u 95, u 96, u 97, u 98, u 99, u 100, u 101, u 102, u 103, u 104, u 105, u 106, u 107, u 108, u 109, u 110, u 111] := rfl
theorem frame112 (T : Array Value) (hs : T.size = 112) (v0 v1 v2 v3 v4 v5 v6 v7 v9 v10 : Value) (h : T.getD 0 undef = v0 ∧ T.getD 1 undef = v1 ∧ T.getD 2 undef = v2 ∧ T.getD 3 undef = v3 ∧ T.getD 4 undef = v4 ∧ T.getD 5 undef = v5 ∧ T.getD 6 undef = v6 ∧ T.getD 7 undef = v7 ∧ T.getD 9 undef = v9 ∧ T.getD 10 undef = v10) : ∃ u : Nat → Value, T = #[v0, v1, v2, v3, v4, v5, v6, v7, u 8, v9, v10, u 11, u 12, u 13, u 14, u 15, u 16, u 17, u 18, u 19, u 20, u 21, u 22, u 23, u 24, u 25, u 26, u 27, u 28, u 29, u 30, u 31, u 32, u 33, u 34, u 35, u 36, u 37, u 38, u 39, u 40, u 41, u 42, u 43, u 44, u 45, u 46, u 47, u 48, u 49, u 50, u 51, u 52, u 53, u 54, u 55, u 56, u 57, u 58, u 59, u 60, u 61, u 62, u 63, u 64, u 65, u 66, u 67, u 68, u 69, u 70, u 71, u 72, u 73, u 74, u 75, u 76, u 77, u 78, u 79, u 80, u 81, u 82, u 83, u 84, u 85, u 86, u 87, u 88, u 89, u 90, u 91, u 92, u 93, u 94, u 95, u 96, u 97, u 98, u 99, u 100, u 101, u 102, u 103, u 104, u 105, u 106, u 107, u 108, u 109, u 110, u 111] := by
  refine ⟨fun i => T.getD i undef, ?_⟩
  obtain ⟨h0, h1, h2, h3, h4, h5, h6, h7, h9, h10⟩ := h
  subst h0 h1 h2 h3 h4 h5 h6 h7 h9 h10
  have hT : T = ((List.range 112).map (fun i => T.getD i undef)).toArray := by
    apply Array.ext
    · simp [hs]
    · intro i h1 h2
      simp [h1]
  rw [lit112] at hT
  exact hT
/-- What holds at the labels: 3: the chunks that came; 0, 1, 2: the error. -/
def AtLabel (A : Option Addr) (c : Nat) (b : List Int) (w : World) (la : Nat) (a' : Act) (wr : World) : Prop :=
  (la = 3 ∧ ∃ (T : Array Value) (A4 : Option Addr) (o : List Int) (c4 : Nat) (A5 : Option Addr) (c5 at_ i d m : Nat) (t : List Int), a' = { tmps := T, defers := [] } ∧ T.size = 112 ∧ (T.getD 0 undef = .slice A b.length c ∧ T.getD 1 undef = undef ∧ T.getD 2 undef = .slice none 0 0 ∧ T.getD 3 undef = .int .u16 0 ∧ T.getD 4 undef = .slice A4 o.length c4 ∧ T.getD 5 undef = .slice A5 t.length c5 ∧ T.getD 6 undef = .pointer (some ⟨w.heap.size, 0, none⟩) ∧ T.getD 7 undef = .int .i64 ((o.length + m : Nat) : Int) ∧ T.getD 9 undef = .int .i64 (at_ : Nat) ∧ T.getD 10 undef = .int .i64 (i : Nat)) ∧ Aside0 (wr.heap[w.heap.size]? = some (.cells (part8u 32 []) 42 (0, 0))) ∧ Aside0 (Below w.heap.size w wr) ∧ Aside0 (Row wr w.heap.size (fun k => k ≠ w.heap.size) (.slice A4 o.length c4) o) ∧ Aside0 (t.length ≤ c5) ∧ Aside0 (Reads wr A5 t) ∧ Aside0 (∀ ad, A5 = some ad → 0 < t.length → ad.block < w.heap.size) ∧ Aside0 (t = b.drop at_) ∧ Aside0 (at_ + t.length = b.length) ∧
    Aside0 (o.length + m ≤ 1048576 ∧ i ≤ o.length ∧ at_ = 12 + o.length + 7 * i ∧ m ≤ d) ∧ Aside0 (ChunkPure.unwrap Z b = contU b o (ChunkPure.chunks Z d i m t))) ∨
  (la < 3 ∧ ∃ T : Array Value, a' = { tmps := T, defers := [] } ∧ T.size = 112 ∧ Aside0 (Below w.heap.size w wr) ∧ Aside0 (ChunkPure.unwrap Z b = .error (if la = 0 then 10 else if la = 1 then 12 else 11)))
theorem at_chunks {A : Option Addr} {c : Nat} {b : List Int} {w : World} {T : Array Value} {wr : World} (A4 : Option Addr) (o : List Int) (c4 : Nat) (A5 : Option Addr) (c5 at_ i d m : Nat) (t : List Int) (n4 n5 : Nat) (z7 z9 z10 : Int) (hs : T.size = 112) (hf : T.getD 0 undef = .slice A b.length c ∧ T.getD 1 undef = undef ∧ T.getD 2 undef = .slice none 0 0 ∧ T.getD 3 undef = .int .u16 0 ∧ T.getD 4 undef = .slice A4 n4 c4 ∧ T.getD 5 undef = .slice A5 n5 c5 ∧ T.getD 6 undef = .pointer (some ⟨w.heap.size, 0, none⟩) ∧ T.getD 7 undef = .int .i64 z7 ∧ T.getD 9 undef = .int .i64 z9 ∧ T.getD 10 undef = .int .i64 z10) (h4 : n4 = o.length) (h5' : n5 = t.length) (h7 : z7 = ((o.length + m : Nat) : Int)) (h9 : z9 = (at_ : Nat)) (h10 : z10 = (i : Nat)) (hS : wr.heap[w.heap.size]? = some (.cells (part8u 32 []) 42 (0, 0))) (hB : Below w.heap.size w wr) (hO : Row wr w.heap.size (fun k => k ≠ w.heap.size) (.slice A4 o.length c4) o) (h5 : t.length ≤ c5) (hR : Reads wr A5 t)
    (hA : ∀ ad, A5 = some ad → 0 < t.length → ad.block < w.heap.size) (ht : t = b.drop at_) (hat : at_ + t.length = b.length) (hn : o.length + m ≤ 1048576 ∧ i ≤ o.length ∧ at_ = 12 + o.length + 7 * i ∧ m ≤ d) (hE : ChunkPure.unwrap Z b = contU b o (ChunkPure.chunks Z d i m t)) : AtLabel A c b w 3 { tmps := T, defers := [] } wr := by
  subst h4 h5' h7 h9 h10
  exact .inl ⟨rfl, T, A4, o, c4, A5, c5, at_, i, d, m, t, rfl, hs, hf, ⟨hS⟩, ⟨hB⟩, ⟨hO⟩, ⟨h5⟩, ⟨hR⟩, ⟨hA⟩, ⟨ht⟩, ⟨hat⟩, ⟨hn⟩, ⟨hE⟩⟩
theorem mu_lt {T T0 : Array Value} {B at_ : Nat} {z9 : Int} (h9 : T.getD 9 undef = .int .i64 z9) (h0 : T0.getD 9 undef = .int .i64 (at_ : Nat)) (hlt : B + 1 - z9.toNat < B + 1 - at_) :
    (if 3 = 3 then B + 1 - (intOf (({ tmps := T, defers := [] } : Act).tmps.getD 9 undef)).toNat else 0) < (if 3 = 3 then B + 1 - (intOf (({ tmps := T0, defers := [] } : Act).tmps.getD 9 undef)).toNat else 0) := by
  show (if 3 = 3 then B + 1 - (intOf (T.getD 9 undef)).toNat else 0) < (if 3 = 3 then B + 1 - (intOf (T0.getD 9 undef)).toNat else 0)
  rw [h9, h0, if_pos rfl, if_pos rfl]
  simpa [intOf] using hlt
def RU (b : List Int) (w : World) : Ending → World → Prop := fun e w' => ∃ v, e = .returned (.tuple #[v, .int .u16 (errU (ChunkPure.unwrap Z b) : Nat)]) ∧ Row w' w.heap.size (fun _ => True) v (outU (ChunkPure.unwrap Z b)) ∧ Below w.heap.size w w'
theorem cell_below {W W' : World} {p : Addr} {v : Value} (h : Below W.heap.size W W') (hc : W.cell? p = some v) : W'.cell? p = W.cell? p := h.cell (block_lt_of_cell hc)
theorem digest_bytes (l : List Int) : Bytes (digest l) := by
  intro c hc
  unfold digest outB at hc
  obtain ⟨j, _, rfl⟩ := List.mem_map.1 hc
  unfold Byte
  omega
theorem bytes_drop {l : List Int} (hl : Bytes l) (n : Nat) : Bytes (l.drop n) := fun c hc => hl c (List.mem_of_mem_drop hc)
theorem chunks_zero (d i : Nat) (t : List Int) : ChunkPure.chunks Z d i 0 t = .ok ([], t) := by
  cases d <;> simp [ChunkPure.chunks]
set_option maxRecDepth 100000 in
set_option maxHeartbeats 4000000 in
theorem chunk_Unwrap_calls (A : Option Addr) (c : Nat) (b : List Int) (w : World) (hG : Glob w) (hR : Reads w A b) (hc : b.length ≤ c) (hb : Bytes b) (hlen : b.length ≤ 140737488351232) :
    Calls Tryd.prog 19 #[.slice A b.length c] w (RU b w) := by
  have HG := Aside0.mk hG
  have HR := Aside0.mk hR
  have HBY := Aside0.mk hb
  clear hG hR hb
  go_enter Tryd.func19, Tryd.ntmps19
  go_wp2
  refine wp_scope_fall (AtLabel A c b w) (fun la a' _ => if la = 3 then b.length + 1 - (intOf (a'.tmps.getD 9 undef)).toNat else 0) ?pass ?first
  case pass =>
    rintro la a' wr (⟨rfl, T0, A4, o, c4, A5, c5, at_, i, d, m, t, rfl, hT0, hF0, HS, HB, HO, HC5, HR5, HAD, HT, HAT, HNUM, HE⟩ | ⟨hl, T, rfl, hT, HB, HE⟩)
    · obtain ⟨u, rfl⟩ := frame112 T0 hT0 _ _ _ _ _ _ _ _ _ _ hF0
      clear hT0 hF0
      refine ⟨_, rfl, ?_⟩
      rcases Nat.eq_zero_or_pos m with rfl | hm
      · skip
        rw [chunks_zero] at HE
        by_cases ht : t.length < 32
        · have htd : decide ((t.length : Int) < 32) = true := decide_eq_true (by omega)
          have HE0 : Aside0 (ChunkPure.unwrap Z b = .error 10) := ⟨by rw [HE.out]; unfold contU; simp only; rw [if_pos ht]⟩
          go_wp2_with fail
          go_step3
          exact ⟨.inr ⟨by decide, _, rfl, rfl, HB, HE0⟩, by have := HAT.out; show (0 : Nat) < b.length + 1 - at_; omega⟩
        · have htd : decide ((t.length : Int) < 32) = false := decide_eq_false (by omega)
          obtain ⟨hN, hi, hat2, hmd⟩ := HNUM.out
          have hat : at_ ≤ b.length := by have := HAT.out; omega
          have hbt : (b.take at_).length = at_ := by rw [List.length_take]; omega
          have hsum := sha_Sum.calls A c (b.take at_) wr (HG.out.below HB.out) (Kd.C_take (Kd.C_below HR.out HB.out) hat) (by omega) (by omega)
          rw [hbt] at hsum
          have HSUM := Aside0.mk hsum
          clear hsum
          obtain ⟨D, hD⟩ : ∃ D, D = digest (b.take at_) := ⟨_, rfl⟩
          rw [← hD] at HSUM
          have hDl : D.length = 32 := by rw [hD]; exact Z.hd _
          have hDb : Bytes D := by rw [hD]; exact digest_bytes _
          have HD := Aside0.mk hD
          clear hD hN hi hat2 hmd hbt
          go_wp2_with (first
            | (go_at_call 29; refine HSUM.out.mono ?_; rintro e wq ⟨rfl, hbq⟩; have HSq := Aside0.mk ((hbq.block w.heap.size (Array.getElem?_eq_some_iff.1 HS.out).1).trans HS.out); have HBQ := Aside0.mk hbq; clear hbq)
            | (refine wpList_store_row rfl 42 _ _ rfl w.heap.size (part8u 32 D) rfl rfl 42 (part8u 32 []) HSq.out (by kernel_rfl) (by kernel_rfl) (p8_one _ _) ?_))
          have hblq : Below w.heap.size w (wq.setRow w.heap.size (part8u 32 D)) := below_setRow (below_step HB.out HBQ.out) (Nat.le_refl _) _
          have hslq : (wq.setRow w.heap.size (part8u 32 D)).heap[w.heap.size]? = some (.cells (part8u 32 D) 42 (0, 0)) := setRow_heap _ _ _ _ _ _ HSq.out
          have hkq : Kept (fun k => k ≠ w.heap.size) wr (wq.setRow w.heap.size (part8u 32 D)) := (Kept.all HBQ.out).trans (S' := fun k => k ≠ w.heap.size) ⟨by simp [World.setRow], by simp [World.setRow], by simp [World.setRow], by rw [setRow_size]; exact Nat.le_refl _, fun k hk hne => setRow_other _ _ _ _ hne⟩ (fun k _ h => h)
          obtain ⟨ad, rfl⟩ : ∃ ad, A5 = some ad := by
            cases A5 with
            | some ad => exact ⟨ad, rfl⟩
            | none =>
              obtain ⟨ad, e', _⟩ := Kd.at_int HR5.out 0 (by omega) (by omega)
              cases e'
          have hadb := HAD.out ad rfl (by omega)
          have hrt := hkq.reads HR5.out (show ad.block ≠ w.heap.size by omega)
          have hrow := hkq.row HO.out (fun k hk => hk)
          have hc32 : 32 ≤ c5 := by have := HC5.out; omega
          have htt : (t.take 32).length = 32 := by rw [List.length_take]; omega
          have hrt2 : Reads (wq.setRow w.heap.size (part8u 32 D)) (some ad) (t.take 32) := Kd.C_take hrt (by omega)
          have hrD : Reads (wq.setRow w.heap.size (part8u 32 D)) (some ⟨w.heap.size, 0, none⟩) D := reads_of_block (t := 42) (fr := (0, 0)) (by rw [hDl]; exact hslq) (by rw [hDl]; decide)
          have htb : Bytes (t.take 32) := bytes_take (by rw [HT.out]; exact bytes_drop HBY.out _) _
          obtain ⟨r, hr⟩ : ∃ r, r = decide (D = t.take 32) := ⟨_, rfl⟩
          have hEq : Calls Tryd.prog 30 #[.slice (some ⟨w.heap.size, 0, none⟩) 32 32, .slice (some ad) 32 c5] (wq.setRow w.heap.size (part8u 32 D)).drew fun e w'' => e = .returned (.bool r) ∧ ∃ m, w'' = (wq.setRow w.heap.size (part8u 32 D)).drew.drewN m := by
            have h := bytes_Equal.calls (some ⟨w.heap.size, 0, none⟩) 32 D (some ad) c5 (t.take 32) r (wq.setRow w.heap.size (part8u 32 D)).drew (Kd.C_drew hrD) (Nat.le_of_eq hDl) (Kd.C_drew hrt2) (by rw [htt]; exact hc32) (by unfold bytes_Equal.f; rw [str_beq hDb htb, hr])
            rw [hDl, htt] at h
            refine h.mono ?_
            rintro e w'' ⟨rfl, ⟨k, hk⟩⟩
            exact ⟨rfl, k, hk⟩
          have HEQ := Aside0.mk hEq
          have HRES : Aside0 (ChunkPure.unwrap Z b = if r = false then .error 12 else if 32 < t.length then .error 11 else .ok o) := ⟨by
            rw [HE.out]
            unfold contU
            simp only
            have hbl : b.length - t.length = at_ := by have := HAT.out; omega
            have hZD : Z.dig (b.take at_) = D := HD.out.symm
            rw [if_neg ht, hbl, hZD]
            by_cases hd : D = t.take 32
            · rw [if_neg (fun h => h hd), hr, decide_eq_true hd, if_neg (show ¬ (true = false) by simp), List.append_nil]
            · rw [if_pos hd, hr, decide_eq_false hd, if_pos rfl]⟩
          have HROW := Aside0.mk hrow
          have HBL := Aside0.mk hblq
          clear hEq hrow hblq hslq hkq hrt hrt2 hrD htb hr hDb hat hadb HE
          generalize wq.setRow w.heap.size (part8u 32 D) = wz at *
          have hmix : Tryd.prog.follows .mixedOrders = true := by kernel_rfl
          go_region_with (go_at_call 30; refine HEQ.out.mono ?_; rintro e wf ⟨rfl, mf, rfl⟩)
          all_goals (
            have HB8 := Aside0.mk (pw_below_drewN HBL.out (1 + mf))
            have HR8 := Aside0.mk (Kd.R_drewN HROW.out (1 + mf))
            clear HEQ HROW HBL
            cases r with
            | false =>
              have HE1 : Aside0 (ChunkPure.unwrap Z b = .error 12) := ⟨by rw [HRES.out, if_pos rfl]⟩
              clear HRES
              go_wp2
              go_step3
              exact ⟨.inr ⟨by decide, _, rfl, rfl, HB8, HE1⟩, by have := HAT.out; show (0 : Nat) < b.length + 1 - at_; omega⟩
            | true =>
              by_cases h32 : 32 < t.length
              · have h32d : decide ((32 : Int) < (t.length : Int)) = true := decide_eq_true (by omega)
                have h32n : decide (32 < t.length) = true := decide_eq_true h32
                have HE2 : Aside0 (ChunkPure.unwrap Z b = .error 11) := ⟨by rw [HRES.out, if_neg (by simp), if_pos h32]⟩
                clear HRES
                go_wp2
                go_step3
                exact ⟨.inr ⟨by decide, _, rfl, rfl, HB8, HE2⟩, by have := HAT.out; show (0 : Nat) < b.length + 1 - at_; omega⟩
              · have h32d : decide ((32 : Int) < (t.length : Int)) = false := decide_eq_false (by omega)
                have h32n : decide (32 < t.length) = false := decide_eq_false h32
                have HE3 : Aside0 (ChunkPure.unwrap Z b = .ok o) := ⟨by rw [HRES.out, if_neg (by simp), if_neg h32]⟩
                clear HRES
                go_wp2
                show bodyPost Tryd.prog Tryd.f19 (RU b w) Exit.ret _ _
                exact bodyPost_ret (results_tmp2 rfl _ _ _) rfl ⟨_, by rw [HE3.out]; rfl, by rw [HE3.out]; exact Kd.R_mono HR8.out (fun _ _ => trivial), HB8.out⟩)
      · obtain ⟨K, hK⟩ : ∃ K, K = min m 100 := ⟨_, rfl⟩
        have hmin : (if (100 : Int) < (m : Int) then (100 : Int) else (m : Int)) = (K : Int) := by rw [hK]; split <;> omega
        have hmin2 : (if 100 < m then (100 : Int) else (m : Int)) = (K : Int) := by rw [hK]; split <;> omega
        have hK0 : 0 < K := by omega
        have hK1 : K ≤ 100 := by omega
        have hK2 : K ≤ m := by omega
        have HK := Aside0.mk hK
        clear hK
        have hkp : decide ((0 : Int) < (K : Int)) = true := decide_eq_true (by omega)
        have hsub : wrap64 ((o.length : Int) + (m : Int) - (o.length : Int)) = (m : Int) := by have := HNUM.out; rw [wrap_small _ (by omega) (by omega)]; omega
        have hst := chunk_step b o t d i m hm (by have := HNUM.out; omega) _ HE.out
        rw [← HK.out] at hst
        have HST := Aside0.mk hst
        clear hst HE
        by_cases ht : t.length < K + 7
        · have htd : decide ((t.length : Int) < (K : Int) + 7) = true := decide_eq_true (by omega)
          have HE0 : Aside0 (ChunkPure.unwrap Z b = .error 10) := ⟨HST.out.1 ht⟩
          clear HST
          go_wp2_with fail
          go_step3
          exact ⟨.inr ⟨by decide, _, rfl, rfl, HB, HE0⟩, by have := HAT.out; show (0 : Nat) < b.length + 1 - at_; omega⟩
        · have htd : decide ((t.length : Int) < (K : Int) + 7) = false := decide_eq_false (by omega)
          obtain ⟨ad, rfl⟩ : ∃ ad, A5 = some ad := by
            cases A5 with
            | some ad => exact ⟨ad, rfl⟩
            | none =>
              obtain ⟨ad, e', _⟩ := Kd.at_int HR5.out 0 (by omega) (by omega)
              cases e'
          have hadb := HAD.out ad rfl (by omega)
          have hcK : K + 7 ≤ c5 := by have := HC5.out; omega
          have htl : (t.take (K + 7)).length = K + 7 := by rw [List.length_take]; omega
          have htb : Bytes t := by rw [HT.out]; exact bytes_drop HBY.out _
          obtain ⟨r, hr⟩ : ∃ r, r = decide (ChunkPure.Right Z (t.take (K + 7))) := ⟨_, rfl⟩
          have hcr := crc_Right.calls (some ad) c5 (t.take (K + 7)) r wr (Kd.C_take HR5.out (by omega)) (by rw [htl]; exact hcK) (by rw [hr]; exact right_some _ (bytes_take htb _) (by omega))
          rw [htl] at hcr
          have HCR := Aside0.mk hcr
          have HTL := Aside0.mk htl
          have HTB := Aside0.mk htb
          have HRR := Aside0.mk hr
          have HADB := Aside0.mk hadb
          clear hcr htl htb hr hadb
          cases r with
          | false =>
            have HE1 : Aside0 (ChunkPure.unwrap Z b = .error 12) := ⟨HST.out.2.1 (by omega) (of_decide_eq_false HRR.out.symm)⟩
            clear HST
            go_wp2_with (go_at_call 27; refine HCR.out.mono ?_; rintro e w6 ⟨rfl, hb6⟩; have HB6 := Aside0.mk (below_step HB.out hb6); clear hb6)
            go_step3
            exact ⟨.inr ⟨by decide, _, rfl, rfl, HB6, HE1⟩, by have := HAT.out; show (0 : Nat) < b.length + 1 - at_; omega⟩
          | true =>
            have hright : ChunkPure.Right Z (t.take (K + 7)) := of_decide_eq_true HRR.out.symm
            have hcells : ∀ j : Nat, j < t.length → wr.cell? (ad.add j) = some (.int .u8 (t.getD j 0)) := by
              intro j hj
              obtain ⟨ad', e', hc'⟩ := Kd.at_int HR5.out (j : Int) (by omega) (by omega)
              cases e'
              rw [Int.toNat_natCast] at hc'
              rw [hc']
              simp [rd]
            have hx0 := byte_getD HTB.out 0
            have hx1 := byte_getD HTB.out 1
            have hx2 := byte_getD HTB.out 2
            have c0 := hcells 0 (by omega)
            have c1 := hcells 1 (by omega)
            have c2 := hcells 2 (by omega)
            rw [show ad.add 0 = ad from rfl] at c0
            have hor := or_byte _ _ ⟨hx0.1, by omega⟩ hx1
            generalize hg0 : t.getD 0 0 = x0 at *
            generalize hg1 : t.getD 1 0 = x1 at *
            generalize hg2 : t.getD 2 0 = x2 at *
            have HC0 := Aside0.mk c0
            have HC1 := Aside0.mk c1
            have HC2 := Aside0.mk c2
            have HCELLS := Aside0.mk hcells
            clear c0 c1 c2 hcells hright hg0 hg1 hg2
            go_wp2_with (go_at_call 27; refine HCR.out.mono ?_; rintro e w6 ⟨rfl, hb6⟩; have c0 := (cell_below hb6 HC0.out).trans HC0.out; have c1 := (cell_below hb6 HC1.out).trans HC1.out; have c2 := (cell_below hb6 HC2.out).trans HC2.out; have c1' : w6.cell? ⟨ad.block, ad.off + 1, none⟩ = some (.int .u8 x1) := c1; have c2' : w6.cell? ⟨ad.block, ad.off + 2, none⟩ = some (.int .u8 x2) := c2; have HBX := Aside0.mk hb6; have HB6 := Aside0.mk (below_step HB.out hb6); clear hb6)
            have hu0 : 0 ≤ x0 := hx0.1
            have hl0 : 0 < t.length := by omega
            have hl1 : 1 < t.length := by omega
            have hl2 : 2 < t.length := by omega
            have hi0 : (0 : Int) < (t.length : Int) := by omega
            have hi1 : (1 : Int) < (t.length : Int) := by omega
            have hi2 : (2 : Int) < (t.length : Int) := by omega
            have hu1 : 0 ≤ x1 := hx1.1
            by_cases hne : x0 * 256 + x1 = (i : Int)
            · have hb1 : (x0 * 256 + x1 != (i : Int)) = false := by rw [bne_eq_false_iff_eq]; exact hne
              by_cases hne2 : x2 = (K : Int)
              · have hb2 : (x2 != (K : Int)) = false := by rw [bne_eq_false_iff_eq]; exact hne2
                have HE4 := Aside0.mk (HST.out.2.2.2 (by omega) (of_decide_eq_true HRR.out.symm) (fun h => h.elim (fun h => h hne) (fun h => h hne2)))
                clear HST hne hne2
                go_quiet (fail)
                have hN := HNUM.out
                have hat' := HAT.out
                have hO7 := Kd.R_drewN (Kd.R_below HO.out HBX.out) nq
                have hB7 := pw_below_drewN HB6.out nq
                have hS7 : (w6.drewN nq).heap[w.heap.size]? = some (.cells (part8u 32 []) 42 (0, 0)) := by rw [World.heap_drewN]; exact (HBX.out.block _ (Array.getElem?_eq_some_iff.1 HS.out).1).trans HS.out
                have hR7 := Kd.C_drewN (Kd.C_below HR5.out HBX.out) nq
                have hsz7 : w.heap.size < (w6.drewN nq).heap.size := (Array.getElem?_eq_some_iff.1 hS7).1
                have hc3 : c5 ≠ 3 := by omega
                have hR3 := Kd.C_drop (c := c5) hR7 (m := 3) (by omega) HC5.out
                rw [if_neg hc3] at hR3
                simp only [Option.map_some, show (Kd.int IntKind.u8).sz = 1 from rfl, Nat.mul_one] at hR3
                have hRk : Reads (w6.drewN nq) (some (ad.add 3)) ((t.drop 3).take K) := Kd.C_take hR3 (by rw [List.length_drop]; omega)
                have hlk : ((t.drop 3).take K).length = K := by rw [List.length_take, List.length_drop]; omega
                have hRn := Kd.C_drop (c := c5) hR7 (m := K + 7) (by omega) HC5.out
                simp only [Option.map_some, show (Kd.int IntKind.u8).sz = 1 from rfl, Nat.mul_one] at hRn
                have hln : (t.drop (K + 7)).length = t.length - (K + 7) := by rw [List.length_drop]
                have hRkk : Kd.C (Kd.int .u8) (w6.drewN nq) (some (ad.add 3)) K ((t.drop 3).take K) := by have := hRk; unfold Reads at this; rwa [hlk] at this
                have HO7 := Aside0.mk hO7
                have HB7 := Aside0.mk hB7
                have HS7 := Aside0.mk hS7
                have HRK := Aside0.mk hRkk
                have HRN := Aside0.mk hRn
                have HLK := Aside0.mk hlk
                have HLN := Aside0.mk hln
                have HSZ := Aside0.mk hsz7
                clear hO7 hB7 hS7 hR7 hR3 hRk hRkk hRn hlk hln hsz7 hN hat' hor c0 c1 c2 c1' c2' hx0 hx1 hx2 hu0 hu1 HC0 HC1 HC2 HCELLS
                generalize w6.drewN nq = w7 at *
                by_cases hcc : c5 = K + 7
                · subst hcc
                  go_wp2_with ((with_reducible refine gate_builtin (b := .append) (xs := #[.tmp 82, .tmp 86]) rfl ?_); at_builtin; refine Kd.R_append_rows (Kd.int .u8) (w0 := w) w.heap.size rfl (.tmp 82) (.tmp 86) 22 5 (.int .u8 0) 1 rfl Tryd.underlying22 info5 rfl (by decide) (by omega) (.slice A4 o.length c4) o ((t.drop 3).take K) (some (ad.add 3)) K (K + 7 - 3) (fun k => k ≠ w.heap.size) (fun _ => False) rfl rfl ?aO ?aR (fun _ _ h => h) (fun _ h => h.elim) ?aF ?aB ?aS ?aL ?_; (case aR => exact HRK.out); (case aB => exact HB7.out); (case aF => exact (fun k hk => by have := HSZ.out; omega)); (case aO => exact HO7.out); (case aS => exact HB7.out.size); (case aL => have := HNUM.out; omega); intro v9 w9 ho9 hb9 hg9 hat9; obtain ⟨A9, c9, e9⟩ := Kd.R_slice ho9; rw [List.length_append, HLK.out] at e9; subst e9; have HO9 := Aside0.mk ho9; have HB9 := Aside0.mk hb9; have HG9 := Aside0.mk hg9; clear ho9 hb9 hg9 hat9)
                  have hnum := HNUM.out
                  have hat2 := HAT.out
                  have hkk : Kept (fun k => some k ≠ (Value.slice A4 o.length c4).ownBlock) w7 w9 := (Kept.refl _ w7).grown HG9.out (fun k hk => .inl (fun h => h hk.symm))
                  have hrn := HRN.out
                  rw [if_pos trivial] at hrn
                  go_step3
                  refine ⟨at_chunks A9 (o ++ (t.drop 3).take K) c9 (some ad) 0 (at_ + (K + 7)) (i + 1) (d - 1) (m - K) (t.drop (K + 7)) _ _ _ _ _ rfl ⟨rfl, rfl, rfl, rfl, rfl, rfl, rfl, rfl, rfl, rfl⟩ (by rw [List.length_append, HLK.out]) (by rw [HLN.out]) (by rw [List.length_append, HLK.out]; omega) (by rw [wrap_small _ (by omega) (by omega)]; omega) (by rw [wrap_small _ (by omega) (by omega)]; omega) ?_ HB9.out (by rw [List.length_append, HLK.out]; exact HO9.out) (by rw [HLN.out]; have := HC5.out; omega) ?_ ?_ (by rw [HT.out, List.drop_drop]) (by rw [HLN.out]; omega) ⟨by rw [List.length_append, HLK.out]; omega, by rw [List.length_append, HLK.out]; omega, by rw [List.length_append, HLK.out]; omega, by omega⟩ HE4.out, ?_⟩
                  · refine (HG9.out.block _ HSZ.out (fun e => ?_)).trans HS7.out
                    exact HO7.out.1 _ e.symm rfl
                  · refine hkk.reads hrn (fun e => ?_)
                    have hb1 := Kd.R_base HO7.out _ e.symm
                    rw [show (ad : Addr).block = ad.block by rfl] at hb1
                    have := HADB.out
                    omega
                  · intro ad' e' _
                    cases e'
                    rw [show (ad : Addr).block = ad.block by rfl]
                    exact HADB.out
                  · refine mu_lt (at_ := at_) (z9 := wrap64 ((at_ : Int) + ((K : Int) + 7))) rfl rfl ?_
                    rw [wrap_small _ (by omega) (by omega)]
                    omega
                · have hcc2 : ¬ c5 = K + 7 := hcc
                  go_wp2_with ((with_reducible refine gate_builtin (b := .append) (xs := #[.tmp 82, .tmp 86]) rfl ?_); at_builtin; refine Kd.R_append_rows (Kd.int .u8) (w0 := w) w.heap.size rfl (.tmp 82) (.tmp 86) 22 5 (.int .u8 0) 1 rfl Tryd.underlying22 info5 rfl (by decide) (by omega) (.slice A4 o.length c4) o ((t.drop 3).take K) (some (ad.add 3)) K (c5 - 3) (fun k => k ≠ w.heap.size) (fun _ => False) rfl rfl ?aO ?aR (fun _ _ h => h) (fun _ h => h.elim) ?aF ?aB ?aS ?aL ?_; (case aR => exact HRK.out); (case aB => exact HB7.out); (case aF => exact (fun k hk => by have := HSZ.out; omega)); (case aO => exact HO7.out); (case aS => exact HB7.out.size); (case aL => have := HNUM.out; omega); intro v9 w9 ho9 hb9 hg9 hat9; obtain ⟨A9, c9, e9⟩ := Kd.R_slice ho9; rw [List.length_append, HLK.out] at e9; subst e9; have HO9 := Aside0.mk ho9; have HB9 := Aside0.mk hb9; have HG9 := Aside0.mk hg9; clear ho9 hb9 hg9 hat9)
                  have hnum := HNUM.out
                  have hat2 := HAT.out
                  have hkk : Kept (fun k => some k ≠ (Value.slice A4 o.length c4).ownBlock) w7 w9 := (Kept.refl _ w7).grown HG9.out (fun k hk => .inl (fun h => h hk.symm))
                  have hrn := HRN.out
                  rw [if_neg hcc] at hrn
                  go_step3
                  refine ⟨at_chunks A9 (o ++ (t.drop 3).take K) c9 (some (ad.add (K + 7))) (c5 - (K + 7)) (at_ + (K + 7)) (i + 1) (d - 1) (m - K) (t.drop (K + 7)) _ _ _ _ _ rfl ⟨rfl, rfl, rfl, rfl, rfl, rfl, rfl, rfl, rfl, rfl⟩ (by rw [List.length_append, HLK.out]) (by rw [HLN.out]) (by rw [List.length_append, HLK.out]; omega) (by rw [wrap_small _ (by omega) (by omega)]; omega) (by rw [wrap_small _ (by omega) (by omega)]; omega) ?_ HB9.out (by rw [List.length_append, HLK.out]; exact HO9.out) (by rw [HLN.out]; have := HC5.out; omega) ?_ ?_ (by rw [HT.out, List.drop_drop]) (by rw [HLN.out]; omega) ⟨by rw [List.length_append, HLK.out]; omega, by rw [List.length_append, HLK.out]; omega, by rw [List.length_append, HLK.out]; omega, by omega⟩ HE4.out, ?_⟩
                  · refine (HG9.out.block _ HSZ.out (fun e => ?_)).trans HS7.out
                    exact HO7.out.1 _ e.symm rfl
                  · refine hkk.reads hrn (fun e => ?_)
                    have hb1 := Kd.R_base HO7.out _ e.symm
                    rw [show ((ad.add (K + 7)) : Addr).block = ad.block by unfold Addr.add; split <;> rfl] at hb1
                    have := HADB.out
                    omega
                  · intro ad' e' _
                    cases e'
                    rw [show ((ad.add (K + 7)) : Addr).block = ad.block by unfold Addr.add; split <;> rfl]
                    exact HADB.out
                  · refine mu_lt (at_ := at_) (z9 := wrap64 ((at_ : Int) + ((K : Int) + 7))) rfl rfl ?_
                    rw [wrap_small _ (by omega) (by omega)]
                    omega
              · have hb2 : (x2 != (K : Int)) = true := by rw [bne_iff_ne]; exact hne2
                have HE2 : Aside0 (ChunkPure.unwrap Z b = .error 11) := ⟨HST.out.2.2.1 (by omega) (of_decide_eq_true HRR.out.symm) (.inr hne2)⟩
                clear HST hne hne2
                go_quiet (fail)
                go_wp2
                go_step3
                exact ⟨.inr ⟨by decide, _, rfl, rfl, ⟨pw_below_drewN HB6.out _⟩, HE2⟩, by have := HAT.out; show (0 : Nat) < b.length + 1 - at_; omega⟩
            · have hb1 : (x0 * 256 + x1 != (i : Int)) = true := by rw [bne_iff_ne]; exact hne
              have HE2 : Aside0 (ChunkPure.unwrap Z b = .error 11) := ⟨HST.out.2.2.1 (by omega) (of_decide_eq_true HRR.out.symm) (.inl hne)⟩
              clear HST hne
              go_quiet (fail)
              go_wp2
              go_step3
              exact ⟨.inr ⟨by decide, _, rfl, rfl, ⟨pw_below_drewN HB6.out _⟩, HE2⟩, by have := HAT.out; show (0 : Nat) < b.length + 1 - at_; omega⟩
    · have hl3 : la = 0 ∨ la = 1 ∨ la = 2 := by omega
      have h2 : ∀ (v x : Value), ((T.setIfInBounds 2 v).setIfInBounds 3 x).getD 2 undef = v ∧ ((T.setIfInBounds 2 v).setIfInBounds 3 x).getD 3 undef = x := by
        intro v x
        simp [Array.getD_eq_getD_getElem?, Array.getElem?_setIfInBounds, hT]
      have H2 := Aside0.mk h2
      clear h2
      rcases hl3 with rfl | rfl | rfl
      · refine ⟨_, rfl, ?_⟩
        have he : ChunkPure.unwrap Z b = .error 10 := HE.out
        have HE2 := Aside0.mk he
        clear he HE
        go_wp2
        show bodyPost Tryd.prog Tryd.f19 (RU b w) Exit.ret _ _
        have hres := results_tmp2 (fn := Tryd.f19) (t := 2) (u := 3) rfl ((T.setIfInBounds 2 (.slice none 0 0)).setIfInBounds 3 (.int .u16 10)) Tryd.prog wr
        rw [(H2.out _ _).1, (H2.out _ _).2] at hres
        exact bodyPost_ret hres rfl ⟨_, by rw [HE2.out]; rfl, by rw [HE2.out]; exact Kd.R_nil _ _ _ _ _, HB.out⟩
      · refine ⟨_, rfl, ?_⟩
        have he : ChunkPure.unwrap Z b = .error 12 := HE.out
        have HE2 := Aside0.mk he
        clear he HE
        go_wp2
        show bodyPost Tryd.prog Tryd.f19 (RU b w) Exit.ret _ _
        have hres := results_tmp2 (fn := Tryd.f19) (t := 2) (u := 3) rfl ((T.setIfInBounds 2 (.slice none 0 0)).setIfInBounds 3 (.int .u16 12)) Tryd.prog wr
        rw [(H2.out _ _).1, (H2.out _ _).2] at hres
        exact bodyPost_ret hres rfl ⟨_, by rw [HE2.out]; rfl, by rw [HE2.out]; exact Kd.R_nil _ _ _ _ _, HB.out⟩
      · refine ⟨_, rfl, ?_⟩
        have he : ChunkPure.unwrap Z b = .error 11 := HE.out
        have HE2 := Aside0.mk he
        clear he HE
        go_wp2
        show bodyPost Tryd.prog Tryd.f19 (RU b w) Exit.ret _ _
        have hres := results_tmp2 (fn := Tryd.f19) (t := 2) (u := 3) rfl ((T.setIfInBounds 2 (.slice none 0 0)).setIfInBounds 3 (.int .u16 11)) Tryd.prog wr
        rw [(H2.out _ _).1, (H2.out _ _).2] at hres
        exact bodyPost_ret hres rfl ⟨_, by rw [HE2.out]; rfl, by rw [HE2.out]; exact Kd.R_nil _ _ _ _ _, HB.out⟩
  case first =>
    intro hfall
    have HF := Aside0.mk hfall
    clear hfall
    have kc := fun (w : World) (C : Array Value) (n c : Nat) => Lib.run_convert_bytes_const (P := Tryd.prog) w 22 5 C n c Tryd.underlying22 Tryd.underlying5
    by_cases h12 : b.length < 12
    · have hd12 : decide ((b.length : Int) < 12) = true := decide_eq_true (by omega)
      have HE0 : Aside0 (ChunkPure.unwrap Z b = .error 10) := ⟨by unfold ChunkPure.unwrap; rw [if_pos h12]⟩
      go_wp2_with (refine wpList_alloc_row rfl 42 rfl _ info24' ?_)
      go_step3
      exact .inr ⟨by decide, _, rfl, rfl, ⟨(Below.refl _ _).alloc (Nat.le_refl _) _⟩, HE0⟩
    · have hd12 : decide ((b.length : Int) < 12) = false := decide_eq_false (by omega)
      obtain ⟨ad, rfl⟩ : ∃ ad, A = some ad := by
        cases A with
        | some ad => exact ⟨ad, rfl⟩
        | none =>
          obtain ⟨ad, e', _⟩ := Kd.at_int HR.out 0 (by omega) (by omega)
          cases e'
      have hadb := reads_block HR.out (by omega)
      have HADB := Aside0.mk hadb
      have hc12 : 12 ≤ c := by omega
      have hw0 : (w.alloc (.cells (part8u 32 []) 42)).heap.size = w.heap.size + 1 := by show (w.heap.push _).size = _; simp
      have hb0 := (Below.refl w.heap.size w).alloc (Nat.le_refl _) (.cells (part8u 32 []) 42)
      have hs0 : (w.alloc (.cells (part8u 32 []) 42)).heap[w.heap.size]? = some (.cells (part8u 32 []) 42 (0, 0)) := heap_alloc_new _ _
      have htl : (b.take 12).length = 12 := by rw [List.length_take]; omega
      obtain ⟨r, hr⟩ : ∃ r, r = decide (ChunkPure.Right Z (b.take 12)) := ⟨_, rfl⟩
      have hcr := crc_Right.calls (some ad) c (b.take 12) r (w.alloc (.cells (part8u 32 []) 42)) (Kd.C_take (Kd.C_below HR.out hb0) (by omega)) (by rw [htl]; exact hc12) (by rw [hr]; exact right_some _ (bytes_take HBY.out _) (by omega))
      rw [htl] at hcr
      have HCR := Aside0.mk hcr
      have HB0 := Aside0.mk hb0
      have HS0 := Aside0.mk hs0
      have HRR := Aside0.mk hr
      clear hcr hb0 hs0 hr htl hadb hw0
      cases r with
      | false =>
        have HE1 : Aside0 (ChunkPure.unwrap Z b = .error 12) := ⟨by unfold ChunkPure.unwrap; rw [if_neg h12, if_pos (of_decide_eq_false HRR.out.symm)]⟩
        go_wp2_with (first | (refine wpList_alloc_row rfl 42 rfl _ info24' ?_) | (go_at_call 27; refine HCR.out.mono ?_; rintro e w6 ⟨rfl, hb6⟩; have HB6 := Aside0.mk (below_step HB0.out hb6); clear hb6))
        go_step3
        exact .inr ⟨by decide, _, rfl, rfl, HB6, HE1⟩
      | true =>
        obtain ⟨r2, hr2⟩ : ∃ r, r = decide (b.take 4 = ChunkPure.mark) := ⟨_, rfl⟩
        have HR2 := Aside0.mk hr2
        have hpre : ∀ (W : World), Below w.heap.size w W → Calls Tryd.prog 28 #[.slice (some ad) b.length c, .slice (some ⟨W.heap.size, 0, none⟩) 4 4] (W.alloc (.cells (([82, 83, 65, 49] : List Int).map (Value.int .u8)).toArray 5 (4, 5))) fun e w' => e = .returned (.bool r2) ∧ Below w.heap.size w w' ∧ Below W.heap.size W w' := by
          intro W hbW
          have hbA := hbW.alloc hbW.size (.cells (([82, 83, 65, 49] : List Int).map (Value.int .u8)).toArray 5 (4, 5))
          have hm : Reads (W.alloc (.cells (([82, 83, 65, 49] : List Int).map (Value.int .u8)).toArray 5 (4, 5))) (some ⟨W.heap.size, 0, none⟩) ChunkPure.mark := by
            refine Kd.C_of_reads (d := 0) (h1 := fun _ => rfl) ⟨rfl, by decide, fun _ => ⟨_, rfl, fun j hj => ?_⟩⟩
            have hj4 : j < 4 := hj
            rw [Addr.add_lit, Nat.zero_add, cell_of_row _ _ _ _ _ _ (heap_alloc_new W _)]
            simp [ChunkPure.mark]
            have : j = 0 ∨ j = 1 ∨ j = 2 ∨ j = 3 := by omega
            rcases this with rfl | rfl | rfl | rfl <;> rfl
          have h := bytes_HasPrefix_calls ad ⟨W.heap.size, 0, none⟩ c 4 b _ (Kd.C_below HR.out hbA) hc hm (by decide) (by omega) HBY.out
          rw [← HR2.out] at h
          refine h.mono ?_
          rintro e w' ⟨rfl, ⟨k, hk⟩⟩
          rw [hk]
          exact ⟨rfl, pw_below_drewN hbA k, pw_below_drewN ((Below.refl W.heap.size W).alloc (Nat.le_refl _) _) k⟩
        have HPRE := Aside0.mk hpre
        clear hpre hr2
        cases r2 with
        | false =>
          have HE2 : Aside0 (ChunkPure.unwrap Z b = .error 11) := ⟨by unfold ChunkPure.unwrap; rw [if_neg h12, if_neg (fun h => h (of_decide_eq_true HRR.out.symm)), if_pos (of_decide_eq_false HR2.out.symm)]⟩
          go_wp2_with (first | (refine wpList_alloc_row rfl 42 rfl _ info24' ?_) | (go_at_call 27; refine HCR.out.mono ?_; rintro e w6 ⟨rfl, hb6⟩; have HB6 := Aside0.mk (below_step HB0.out hb6); clear hb6) | (go_at_call 28; refine (HPRE.out _ HB6.out).mono ?_; rintro e w7 ⟨rfl, hb7, hb76⟩; have HB7 := Aside0.mk hb7; clear hb7 hb76))
          go_step3
          exact .inr ⟨by decide, _, rfl, rfl, HB7, HE2⟩
        | true =>
          go_wp2_with (first | (refine wpList_alloc_row rfl 42 rfl _ info24' ?_) | (go_at_call 27; refine HCR.out.mono ?_; rintro e w6 ⟨rfl, hb6⟩; have HS6 := Aside0.mk ((hb6.block _ (Array.getElem?_eq_some_iff.1 HS0.out).1).trans HS0.out); have HB6 := Aside0.mk (below_step HB0.out hb6); clear hb6) | (go_at_call 28; refine (HPRE.out _ HB6.out).mono ?_; rintro e w7 ⟨rfl, hb7, hb76⟩; have HS7 := Aside0.mk ((hb76.block _ (Array.getElem?_eq_some_iff.1 HS6.out).1).trans HS6.out); have HB7 := Aside0.mk hb7; clear hb7 hb76))
          have hcell : ∀ j : Nat, j < 4 → w7.cell? ⟨ad.block, ad.off + 4 + j, none⟩ = some (.int .u8 (b.getD (4 + j) 0)) := by
            intro j hj
            obtain ⟨ad', e', hc'⟩ := Kd.at_int (Kd.C_below HR.out HB7.out) ((4 + j : Nat) : Int) (by omega) (by omega)
            cases e'
            rw [Int.toNat_natCast, ← add_add] at hc'
            have hc2 : w7.cell? ((⟨ad.block, ad.off + 4, none⟩ : Addr).add j) = _ := hc'
            rw [Addr.add_lit] at hc2
            rw [hc2]
            simp only [rd, Int.toNat_natCast]
          have HCELL := Aside0.mk hcell
          clear hcell HPRE HCR
          go_loop [7, 28] (fun v7 v28 => ∃ j : Nat, j ≤ 4 ∧ v28 = .int .i64 j ∧ v7 = .int .i64 (numTo b j)) (fun _ v28 => 4 - (intOf v28).toNat)
          case atStart => exact ⟨0, by omega, rfl, rfl⟩
          case round =>
            obtain ⟨j, hj, rfl, rfl⟩ := hrel
            by_cases hlt : j < 4
            · have hcj := HCELL.out j hlt
              have hn0 := numTo_range HBY.out j
              have hxb := byte_getD HBY.out (4 + j)
              have hpw : (256 : Int) ^ j ≤ 16777216 := by
                have : j = 0 ∨ j = 1 ∨ j = 2 ∨ j = 3 := by omega
                rcases this with rfl | rfl | rfl | rfl <;> decide
              have hor := or_byte (numTo b j) (b.getD (4 + j) 0) ⟨hn0.1, by omega⟩ hxb
              have hxn : numTo b (j + 1) = numTo b j * 256 + b.getD (4 + j) 0 := rfl
              have HXN := Aside0.mk hxn
              clear hxn
              generalize b.getD (4 + j) 0 = xj at *
              generalize numTo b j = nj at *
              have hnj : 0 ≤ nj := hn0.1
              have hxj : 0 ≤ xj := hxb.1
              have hw1 : wrap64 (nj * 256) = nj * 256 := wrap_small _ (by omega) (by omega)
              clear hpw
              go_wp2
              exact ⟨⟨j + 1, by omega, by simp, by rw [HXN.out]⟩, by simp [intOf]; omega⟩
            · obtain rfl : j = 4 := by omega
              rw [numTo_four]
              have hN0 := (numTo_range HBY.out 4).1
              rw [numTo_four] at hN0
              obtain ⟨N, hN⟩ := Int.eq_ofNat_of_zero_le hN0
              have HN := Aside0.mk hN
              rw [hN]
              clear hN hN0
              by_cases hbig : 1048576 < N
              · have hdb : decide ((1048576 : Int) < (N : Int)) = true := decide_eq_true (by omega)
                have hdb2 : decide (1048576 < N) = true := decide_eq_true hbig
                have HE3 : Aside0 (ChunkPure.unwrap Z b = .error 3) := ⟨by unfold ChunkPure.unwrap; rw [if_neg h12, if_neg (fun h => h (of_decide_eq_true HRR.out.symm)), if_neg (fun h => h (of_decide_eq_true HR2.out.symm)), if_pos (by rw [HN.out]; omega)]⟩
                go_wp2
                show bodyPost Tryd.prog Tryd.f19 (RU b w) Exit.ret _ _
                exact bodyPost_ret (results_tmp2 rfl _ _ _) rfl ⟨_, by rw [HE3.out]; rfl, by rw [HE3.out]; exact Kd.R_nil _ _ _ _ _, HB7.out⟩
              · have hdb : decide ((1048576 : Int) < (N : Int)) = false := decide_eq_false (by omega)
                have hdb2 : decide (1048576 < N) = false := decide_eq_false hbig
                have hop := unwrap_open b (by omega) (of_decide_eq_true HRR.out.symm) (of_decide_eq_true HR2.out.symm) (by rw [HN.out]; omega)
                rw [HN.out, Int.toNat_natCast] at hop
                have HOP := Aside0.mk hop
                have hRn := Kd.C_drop (c := c) (Kd.C_below HR.out HB7.out) (m := 12) (by omega) hc
                simp only [Option.map_some, show (Kd.int IntKind.u8).sz = 1 from rfl, Nat.mul_one] at hRn
                have HRN := Aside0.mk hRn
                have hdl : (b.drop 12).length = b.length - 12 := by rw [List.length_drop]
                have HDL := Aside0.mk hdl
                clear hop hRn hdl
                by_cases hcc : c = 12
                · have hcc1 : (c = 12) = True := eq_true hcc
                  have HCC := Aside0.mk hcc
                  clear hcc
                  go_upto_region 14 with fail
                  rename_i K3 hK3
                  have hK4 : ∀ a w', AtLabel (some ad) c b w 3 a w' → K3 a w' := fun a w' hJ => hK3 a w' (wp_seq (wp_label (HF.out 3 a w' _ hJ rfl)))
                  have HK4 := Aside0.mk hK4
                  clear hK3 hK4
                  go_wp2
                  refine HK4.out _ _ (at_chunks none [] 0 (some ad) (c - 12) 12 0 N N (b.drop 12) _ _ _ _ _ rfl ⟨rfl, rfl, rfl, rfl, rfl, rfl, rfl, rfl, rfl, rfl⟩ rfl (by rw [HDL.out]) (by simp) rfl rfl HS7.out HB7.out (Kd.R_nil _ _ _ _ _) (by rw [HDL.out]; omega) ?_ ?_ rfl (by rw [HDL.out]; omega) ⟨by simp; omega, by omega, by simp, by omega⟩ HOP.out)
                  · have := HRN.out
                    first | (rw [if_pos trivial] at this) | (rw [if_pos HCC.out] at this)
                    exact this
                  · intro ad' e' _
                    cases e'
                    exact HADB.out
                · have hcc2 : ¬ c = 12 := hcc
                  go_upto_region 14 with fail
                  rename_i K3 hK3
                  have hK4 : ∀ a w', AtLabel (some ad) c b w 3 a w' → K3 a w' := fun a w' hJ => hK3 a w' (wp_seq (wp_label (HF.out 3 a w' _ hJ rfl)))
                  have HK4 := Aside0.mk hK4
                  clear hK3 hK4
                  go_wp2
                  refine HK4.out _ _ (at_chunks none [] 0 (some (ad.add 12)) (c - 12) 12 0 N N (b.drop 12) _ _ _ _ _ rfl ⟨rfl, rfl, rfl, rfl, rfl, rfl, rfl, rfl, rfl, rfl⟩ rfl (by rw [HDL.out]) (by simp) rfl rfl HS7.out HB7.out (Kd.R_nil _ _ _ _ _) (by rw [HDL.out]; omega) ?_ ?_ rfl (by rw [HDL.out]; omega) ⟨by simp; omega, by omega, by simp, by omega⟩ HOP.out)
                  · have := HRN.out
                    rw [if_neg hcc] at this
                    exact this
                  · intro ad' e' _
                    cases e'
                    exact HADB.out
end Go.Proofs.YtpnlpbbnakplhaaDoor
