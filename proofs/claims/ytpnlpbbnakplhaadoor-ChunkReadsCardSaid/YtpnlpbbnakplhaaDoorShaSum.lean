/- sha.Sum of the given program: the walk. Rows of bytes shorter than 2^40. -/
import Derived.Test.YtpnlpbbnakplhaaDoorShaAdd
namespace Go.Proofs.YtpnlpbbnakplhaaDoor
open Go.RowKit Go.Proofs.YtpnlpbbnakplhaaDoorW.PrintWords Go.Proofs.YtpnlpbbnakplhaaDoorW.PrintLast Go.Proofs.YtpnlpbbnakplhaaDoorW.PrintMore
set_option linter.unusedVariables false
theorem info5 : (Tryd.prog.info? 5).map (fun i => (i.zero, i.size, i.bytes)) = some (some (.int .u8 0), 1, 1) := by kernel_rfl
theorem info24 : (Tryd.prog.info? 42).bind (·.zero) = some (.agg (Array.replicate 32 (.int .u8 0))) := by kernel_rfl
def part8u (n : Nat) (l : List Int) : Array Value := Array.ofFn (n := n) fun i => Value.int .u8 (rd l i.val)
theorem p8_size (n : Nat) (l : List Int) : (part8u n l).size = n := by simp [part8u]
theorem p8_at (n : Nat) (l : List Int) (i : Nat) (h : i < n) : (part8u n l)[i]? = some (.int .u8 (rd l i)) := by simp [part8u, h]
theorem p8_zero (n : Nat) : Array.replicate n (Value.int .u8 0) = part8u n [] := by
  apply Array.ext
  · simp [part8u]
  · intro i h1 h2
    simp [part8u, rd]
theorem p8_put (n : Nat) (l : List Int) (v : Int) (h : l.length < n) : (part8u n l).setIfInBounds l.length (.int .u8 v) = part8u n (l ++ [v]) := by
  apply Array.ext
  · simp [part8u]
  · intro i h1 h2
    have h2' : i < n := by simpa [part8u] using h2
    rw [Array.getElem_setIfInBounds]
    · simp only [part8u, Array.getElem_ofFn]
      by_cases e : l.length = i
      · subst e; simp [rd]
      · rw [if_neg e]
        by_cases hl : i < l.length
        · have := List.getElem?_append_left (l₂ := [v]) hl
          simp [rd, List.getD, hl, this]
        · simp [rd, List.getD, hl]
          rw [List.getElem?_append_right (by omega)]
          cases hh : i - l.length with
          | zero => omega
          | succ m => simp
    · simpa [part8u] using h2'
theorem p8_one (n : Nat) (l : List Int) : (part8u n l).all (·.oneCell') = true := by
  rw [Array.all_eq_true]
  intro i h
  simp [part8u]
  rfl
theorem info24' : (Tryd.prog.info? 42).bind (·.zero) = some (.agg (part8u 32 [])) := by rw [← p8_zero]; exact info24
theorem add_add (ad : Addr) (m j : Nat) : (ad.add m).add j = ad.add (m + j) := by
  unfold Addr.add
  by_cases hm : m = 0
  · subst hm; simp
  · by_cases hj : j = 0
    · subst hj; simp
    · cases m with
      | zero => exact absurd rfl hm
      | succ m =>
        cases j with
        | zero => exact absurd rfl hj
        | succ j => simp [Nat.add_assoc]
theorem rd_drop (l : List Int) (m j : Nat) : rd (l.drop m) (j : Int) = rd l ((m + j : Nat) : Int) := by
  simp only [rd, List.getD, List.getElem?_drop, Int.toNat_natCast]
theorem cells_begun : cells32 begunNums = part32 8 begunNums := part8 _ _ _ _ _ _ _ _
def zerosOf (n : Nat) : Nat := (120 - n % 64) % 64
def lenB (n : Nat) (i : Nat) : List Int := (List.range i).map fun (j : Nat) => (8 * (n : Int)) / 2 ^ (56 - 8 * j) % 256
def padB (l : List Int) : List Int := l ++ [128] ++ List.replicate (zerosOf (l.length + 1)) 0 ++ lenB l.length 8
def blocksN : Nat → List Int → List Int → List Int
  | 0, s, _ => s
  | n + 1, s, p => blocksN n (addB s (p.take 64)) (p.drop 64)
def stateB (l : List Int) : List Int := blocksN ((padB l).length / 64) begunNums (padB l)
def outB (s : List Int) (i : Nat) : List Int := (List.range i).map fun (j : Nat) => rd s ((j / 4 : Nat) : Int) / 2 ^ (24 - j % 4 * 8) % 256
def digest (l : List Int) : List Int := outB (stateB l) 32

set_option maxRecDepth 100000 in
set_option maxHeartbeats 4000000 in
theorem sha_Sum.calls (A : Option Addr) (c : Nat) (l : List Int) (w : World) (hG : Glob w) (hr : Kd.C (Kd.int .u8) w A l.length l) (hc : l.length ≤ c) (hn : l.length ≤ 1099511627776) :
    Calls Tryd.prog 29 #[.slice A l.length c] w fun e w' => e = .returned (.agg (part8u 32 (digest l))) ∧ Below w.heap.size w w' := by
  have HG := Aside0.mk hG
  have HR := Aside0.mk hr
  clear hG hr
  obtain ⟨tb, frb, hbeg⟩ := HG.out.begun
  have HBG := Aside0.mk hbeg
  clear hbeg
  have hs0 := HG.out.size
  go_enter Tryd.func29, Tryd.ntmps29
  go_upto_region 1 with (refine wpList_alloc_row rfl 42 rfl _ info24' ?_)
  have HBG1 := Aside0.mk ((_root_.Go.heap_alloc_old w (.cells (part8u 32 []) 42) (show 0 < w.heap.size by omega)).trans HBG.out)
  have HO1 := Aside0.mk (heap_alloc_new w (.cells (part8u 32 []) 42))
  have HB1 := Aside0.mk ((Below.refl w.heap.size w).alloc (Nat.le_refl _) (.cells (part8u 32 []) 42))
  have hz1 : (w.alloc (.cells (part8u 32 []) 42)).heap.size = w.heap.size + 1 := by show (w.heap.push _).size = _; simp
  generalize w.alloc (.cells (part8u 32 []) 42) = w1 at *
  have Hz1 := Aside0.mk hz1
  clear hz1
  go_upto_region 2 with (first | (refine wpList_load_row rfl 61 _ rfl 0 rfl tb (cells32 begunNums) frb _ HBG1.out Tryd.underlying61 rfl (by kernel_rfl) ?_) | (refine wpList_alloc_row rfl 62 rfl _ info32 ?_) | (refine wpList_store_row rfl 62 _ _ rfl _ (cells32 begunNums) rfl rfl 62 (part32 8 []) (heap_alloc_new _ _) (by kernel_rfl) (by kernel_rfl) (by kernel_rfl) ?_))
  have hz1 := Hz1.out
  have hz2 : ((w1.alloc (.cells (part32 8 []) 62)).setRow w1.heap.size (cells32 begunNums)).heap.size = w.heap.size + 2 := by
    rw [setRow_size]; show (w1.heap.push _).size = _; simp [hz1]
  have HS2 := Aside0.mk (setRow_heap _ _ _ (cells32 begunNums) _ _ (heap_alloc_new w1 (.cells (part32 8 []) 62)))
  have HB2 := Aside0.mk (below_setRow (HB1.out.alloc (by omega) (.cells (part32 8 []) 62)) (show w.heap.size ≤ w1.heap.size by omega) (cells32 begunNums))
  have HOc := Aside0.mk (show ((w1.alloc (.cells (part32 8 []) 62)).setRow w1.heap.size (cells32 begunNums)).heap[w.heap.size]? = some (.cells (part8u 32 []) 42 (0, 0)) by
    rw [setRow_other _ _ _ _ (by omega), _root_.Go.heap_alloc_old _ _ (by omega)]; exact HO1.out)
  clear HBG1 HO1 HB1
  rw [hz1] at HS2 HB2 HOc hz2
  rw [hz1]
  generalize (w1.alloc (.cells (part32 8 []) 62)).setRow (w.heap.size + 1) (cells32 begunNums) = w2 at *
  have Hz2 := Aside0.mk hz2
  clear hz1 hz2 Hz1
  clear w1
  have HR2 := Aside0.mk (Kd.C_below HR.out HB2.out)
  go_wp2_with (first
    | ((with_reducible refine gate_dst (N := 12) rfl ?_); refine R_make0 (Kd.int .u8) (w0 := w2) w2.heap.size 5 rfl (N := 12) rfl 22 _ _ rfl ((l.length : Int) + 128) rfl rfl Tryd.underlying22 (.int .u8 0) 1 info5 rfl (by decide) (by omega) 0 (ok := fun _ => True) (okp := fun _ => True) rfl (fun _ hk => hk) trivial (by omega) (by omega) (Below.refl _ _) (Nat.le_refl _) ?_; intro v1 w3 ho hb hg_ hnew_; clear hg_ hnew_; have HO := Aside0.mk ho; have HB3 := Aside0.mk hb; clear ho hb)
    | ((with_reducible refine gate_builtin (b := .append) (xs := #[.tmp 12, .tmp 13]) rfl ?_); at_builtin; refine Kd.R_append_rows (Kd.int .u8) (w0 := w2) w2.heap.size rfl (.tmp 12) (.tmp 13) 22 5 (.int .u8 0) 1 rfl Tryd.underlying22 info5 rfl (by decide) (by omega) v1 ([] : List Int) l _ _ _ (fun _ => True) (fun _ => False) rfl rfl ?aO ?aR (fun _ _ h => h) (fun _ h => h.elim) ?aF ?aB ?aS ?aL ?_; (case aR => exact Kd.C_below HR2.out HB3.out); (case aB => exact HB3.out); (case aF => exact (fun _ _ => trivial)); (case aO => exact HO.out); (case aS => exact HB3.out.size); (case aL => simp; omega); intro v2 w4 ho hb hg hat; have HO2 := Aside0.mk ho; have HB4 := Aside0.mk hb; clear ho hb hg hat)
    | ((with_reducible refine gate_builtin (b := .append) (xs := #[.tmp 14, .tmp 15]) rfl ?_); at_builtin; refine Kd.R_append (Kd.int .u8) (w0 := w2) w2.heap.size rfl (.tmp 14) (.tmp 15) 22 5 (.int .u8 0) 1 rfl Tryd.underlying22 info5 rfl (by decide) (by omega) v2 ([] ++ l) 128 [.int .u8 128] (fun _ => True) (fun _ => False) rfl rfl ?aP (fun _ hk => hk.elim) ?aF ?aO ?aB ?aS ?aL ?_; (case aP => exact rfl); (case aB => exact HB4.out); (case aF => exact (fun _ _ => trivial)); (case aO => exact HO2.out); (case aS => exact HB4.out.size); (case aL => simp; omega); intro v3 w5 ho hb hg hat; have HO3 := Aside0.mk ho; have HB5 := Aside0.mk hb; clear ho hb hg hat))
  rw [List.nil_append] at HO3
  clear HO HB3 HO2 HB4 HR2
  go_loopg [4] (zerosOf (l.length + 1)) (fun kq v4 wr => ∃ j : Nat, j + kq = zerosOf (l.length + 1) ∧ Aside0 (Kd.R (Kd.int .u8) 5 wr w2.heap.size (fun _ => True) v4 (l ++ [128] ++ List.replicate j 0)) ∧ Aside0 (Below w2.heap.size w2 wr))
  case atStart => exact ⟨0, by omega, ⟨by simpa using HO3.out⟩, HB5⟩
  case round =>
    clear HO3 HB5
    obtain ⟨j, hj, HO, HB⟩ := hrel
    have hlen : (l ++ [128] ++ List.replicate j 0 : List Int).length = l.length + 1 + j := by simp only [List.length_append, List.length_replicate, List.length_cons, List.length_nil]; try omega
    obtain ⟨A4, c4, e4⟩ := Kd.R_slice HO.out
    rw [hlen] at e4
    subst e4
    cases gk with
    | succ k1 =>
      have hne : (((l.length + 1 + j : Nat) : Int) % 64 == 56) = false := by rw [beq_eq_false_iff_ne]; unfold zerosOf at hj; omega
      have hne2 : (((l.length + 1 + j : Nat) : Int) % 64 != 56) = true := by rw [bne_iff_ne]; unfold zerosOf at hj; omega
      go_wp2_with ((with_reducible refine gate_builtin (b := .append) (xs := #[.tmp 21, .tmp 22]) rfl ?_); at_builtin; refine Kd.R_append (Kd.int .u8) (w0 := w2) w2.heap.size rfl (.tmp 21) (.tmp 22) 22 5 (.int .u8 0) 1 rfl Tryd.underlying22 info5 rfl (by decide) (by omega) (.slice A4 (l.length + 1 + j) c4) (l ++ [128] ++ List.replicate j 0) 0 [.int .u8 0] (fun _ => True) (fun _ => False) rfl rfl ?aP (fun _ hk => hk.elim) ?aF ?aO ?aB ?aS ?aL ?_; (case aP => exact rfl); (case aB => exact HB.out); (case aF => exact (fun _ _ => trivial)); (case aO => exact HO.out); (case aS => exact HB.out.size); (case aL => rw [hlen]; unfold zerosOf at hj; omega); intro v3 w5 ho hb hg hat; have HO3 := Aside0.mk ho; have HB5 := Aside0.mk hb; clear ho hb hg hat)
      go_roundg k1
      case measure => omega
      case rel => exact ⟨j + 1, by omega, ⟨by have h := HO3.out; rwa [List.append_assoc, ← List.replicate_succ'] at h⟩, HB5⟩
    | zero =>
      have hne : (((l.length + 1 + j : Nat) : Int) % 64 == 56) = true := by rw [beq_iff_eq]; unfold zerosOf at hj; omega
      have hne2 : (((l.length + 1 + j : Nat) : Int) % 64 != 56) = false := by rw [bne_eq_false_iff_eq]; unfold zerosOf at hj; omega
      obtain rfl : j = zerosOf (l.length + 1) := by omega
      clear hj
      have hz : zerosOf (l.length + 1) < 64 := by unfold zerosOf; omega
      clear hne hne2
      have hne3 : ((((l.length : Int) + 1 + ((zerosOf (l.length + 1) : Nat) : Int)) % 64) != 56) = false := by rw [bne_eq_false_iff_eq]; unfold zerosOf; omega
      go_wp2
      generalize hP : l ++ [128] ++ List.replicate (zerosOf (l.length + 1)) 0 = P at *
      have HP := Aside0.mk hP
      clear hP
      go_loopw [4, 24] (fun v4 v24 wr => ∃ i : Nat, i ≤ 8 ∧ v24 = .int .i64 i ∧ Aside0 (Kd.R (Kd.int .u8) 5 wr w2.heap.size (fun _ => True) v4 (P ++ lenB l.length i)) ∧ Aside0 (Below w2.heap.size w2 wr)) (fun _ v24 _ => 8 - (intOf v24).toNat)
      case atStart => exact ⟨0, by omega, rfl, ⟨by simpa [lenB] using HO.out⟩, HB⟩
      case round =>
        clear HO HB
        obtain ⟨i, hi, rfl, HO, HB⟩ := hrel
        have hlen2 : (P ++ lenB l.length i : List Int).length = P.length + i := by simp [lenB]
        obtain ⟨A5, c5, e5⟩ := Kd.R_slice HO.out
        rw [hlen2] at e5
        subst e5
        by_cases hi8 : i < 8
        · have hPl : P.length ≤ 1099511627900 := by
            rw [← HP.out]
            simp only [List.length_append, List.length_replicate, List.length_cons, List.length_nil]
            omega
          go_wp2_with ((with_reducible refine gate_builtin (b := .append) (xs := #[.tmp 27, .tmp 37]) rfl ?_); at_builtin; refine Kd.R_append (Kd.int .u8) (w0 := w2) w2.heap.size rfl (.tmp 27) (.tmp 37) 22 5 (.int .u8 0) 1 rfl Tryd.underlying22 info5 rfl (by decide) (by omega) (.slice A5 (P.length + i) c5) (P ++ lenB l.length i) (8 * (l.length : Int) / 2 ^ (56 - 8 * i) % 256) [.int .u8 (8 * (l.length : Int) / 2 ^ (56 - 8 * i) % 256)] (fun _ => True) (fun _ => False) rfl rfl ?aP (fun _ hk => hk.elim) ?aF ?aO ?aB ?aS ?aL ?_; (case aP => exact rfl); (case aB => exact HB.out); (case aF => exact (fun _ _ => trivial)); (case aO => exact HO.out); (case aS => exact HB.out.size); (case aL => rw [hlen2]; omega); intro v3 w5 ho hb hg hat; have HO3 := Aside0.mk ho; have HB5 := Aside0.mk hb; clear ho hb hg hat)
          go_roundw
          case rel => exact ⟨i + 1, by omega, by go_num, ⟨by have h := HO3.out; rw [List.append_assoc] at h; have e : lenB l.length i ++ [8 * (l.length : Int) / 2 ^ (56 - 8 * i) % 256] = lenB l.length (i + 1) := by simp [lenB, List.range_succ]
                                                             rwa [e] at h⟩, HB5⟩
          case measure => simp [intOf]; omega
        · obtain rfl : i = 8 := by omega
          obtain ⟨D, hD⟩ : ∃ D, D = P ++ lenB l.length 8 := ⟨_, rfl⟩
          have hDl : D.length = P.length + 8 := by rw [hD]; exact hlen2
          have hDp : padB l = D := by rw [hD, ← HP.out]; rfl
          have hP8 : ∃ q, P.length + 8 = 64 * (q + 1) := by
            rw [← HP.out]
            simp only [List.length_append, List.length_replicate, List.length_cons, List.length_nil]
            unfold zerosOf
            exact ⟨((l.length + (0 + 1) + (120 - (l.length + 1) % 64) % 64 + 8) / 64) - 1, by omega⟩
          obtain ⟨q, hq⟩ := hP8
          rw [← hD] at HO
          have hrd := Kd.R_reads' HO.out
          obtain ⟨ad, rfl, _⟩ := Kd.at_int hrd.2.2 0 (by omega) (by omega)
          have hcells : ∀ j : Nat, j < D.length → wr.cell? (ad.add j) = some (.int .u8 (rd D j)) := by
            intro j hj
            obtain ⟨ad', e', hc'⟩ := Kd.at_int hrd.2.2 (j : Int) (by omega) (by omega)
            cases e'
            simpa using hc'
          have hblk : w.heap.size + 2 ≤ ad.block := by
            have h1 := (Kd.R_bound HO.out).1 ad.block (by simp [Value.ownBlock])
            rw [← Hz2.out]
            exact h1.2.1
          have hcc : D.length ≤ c5 := by rw [hDl]; exact hrd.2.1
          have hst : blocksN (q + 1) begunNums D = stateB l := by unfold stateB; rw [hDp, hDl, hq, Nat.mul_div_cancel_left _ (by decide)]
          have hS : wr.heap[w.heap.size + 1]? = some (.cells (part32 8 begunNums) 62 (0, 0)) := by
            rw [← cells_begun]
            exact (HB.out.block _ (by rw [Hz2.out]; omega)).trans HS2.out
          have hO : wr.heap[w.heap.size]? = some (.cells (part8u 32 []) 42 (0, 0)) := (HB.out.block _ (by rw [Hz2.out]; omega)).trans HOc.out
          have hBw : Below w.heap.size w wr := HB2.out.trans (HB.out.mono (by rw [Hz2.out]; omega))
          have hlq : D.length = 64 * (q + 1) := by omega
          rw [← hDl]
          have HC := Aside0.mk hcells
          have HBK := Aside0.mk hblk
          have HCC := Aside0.mk hcc
          have HST := Aside0.mk hst
          have HSS := Aside0.mk hS
          have HOO := Aside0.mk hO
          have HBW := Aside0.mk hBw
          have HLQ := Aside0.mk hlq
          clear hcells hblk hcc hst hS hO hBw hlq hrd hD hDl hDp hq HO HB HP HS2 HOc HB2
          go_wp2
          go_loopg [4] (q + 1) (fun kq v4 wr => ∃ (ad : Addr) (c' : Nat) (rest s : List Int), v4 = .slice (some ad) rest.length c' ∧ Aside0 (rest.length = 64 * kq) ∧ Aside0 (rest.length ≤ c') ∧ Aside0 (w.heap.size + 2 ≤ ad.block) ∧ Aside0 (∀ j : Nat, j < rest.length → wr.cell? (ad.add j) = some (.int .u8 (rd rest j))) ∧ Aside0 (wr.heap[w.heap.size + 1]? = some (.cells (part32 8 s) 62 (0, 0))) ∧ Aside0 (s.length = 8) ∧ Aside0 (blocksN kq s rest = stateB l) ∧ Aside0 (wr.heap[w.heap.size]? = some (.cells (part8u 32 []) 42 (0, 0))) ∧ Aside0 (Below w.heap.size w wr))
          case atStart => exact ⟨ad, c5, D, begunNums, rfl, HLQ, HCC, HBK, HC, HSS, ⟨rfl⟩, HST, HOO, HBW⟩
          case round =>
            clear HLQ HCC HBK HC HSS HST HOO HBW
            obtain ⟨ad, c', rest, s, rfl, HLQ, HCC, HBK, HC, HSS, HSL, HST, HOO, HBW⟩ := hrel
            cases gk with
            | succ k1 =>
              have h64 : 64 ≤ rest.length := by have := HLQ.out; omega
              have hc64 : 64 ≤ c' := by have := HCC.out; omega
              have hpos : 0 < rest.length := by omega
              have hGr := HG.out.below HBW.out
              have hct : Kd.C (Kd.int .u8) wr (some ad) 64 (rest.take 64) := by
                have htl : (rest.take 64).length = 64 := by rw [List.length_take]; omega
                refine Kd.C_of_reads (d := 0) (h1 := fun _ => rfl) ⟨htl, by decide, fun _ => ⟨ad, rfl, fun j hj => ?_⟩⟩
                rw [HC.out j (by omega)]
                simp [rd, List.getD, hj]
              have HGr := Aside0.mk hGr
              have HCT := Aside0.mk hct
              clear hGr hct
              have hsplit : ∀ (w' : World), But (w.heap.size + 1) wr w' → ∀ j : Nat, j < rest.length → w'.cell? (ad.add j) = some (.int .u8 (rd rest j)) := by
                intro w' hb j hj
                have hcell := HC.out j hj
                have hblk : (ad.add j).block = ad.block := by unfold Addr.add; split <;> rfl
                have hlt := block_lt_of_cell hcell
                rw [← hcell]
                unfold World.cell?
                rw [hb.block _ hlt (by rw [hblk]; have := HBK.out; omega)]
              have HSP := Aside0.mk hsplit
              clear hsplit
              by_cases hc0 : c' = 64
              · subst hc0
                have hlr : rest.length = 64 := by have := HCC.out; omega
                have HLR := Aside0.mk hlr
                clear hlr
                go_wp2_with (go_at_call 46; refine (sha_add.calls (w.heap.size + 1) (some ad) 64 (rest.take 64) s _ HGr.out HSL.out (by rw [List.length_take]; omega) HSS.out HCT.out hc64).mono ?_; rintro e w' ⟨hrow, hbut, rfl⟩; have HSS2 := Aside0.mk hrow; have HBU := Aside0.mk hbut; clear hrow hbut)
                go_roundg k1
                case measure => omega
                case rel =>
                  have hk0 : k1 = 0 := by have := HLQ.out; have := HLR.out; omega
                  subst hk0
                  refine ⟨ad, 0, rest.drop 64, addB s (rest.take 64), by rw [List.length_drop], ⟨by rw [List.length_drop]; have := HLQ.out; omega⟩, ⟨by rw [List.length_drop]; have := HLR.out; omega⟩, HBK, ⟨fun j hj => ?_⟩, HSS2, ⟨by simp [addB, addTo]⟩, ⟨HST.out⟩, ⟨?_⟩, ⟨?_⟩⟩
                  · rw [List.length_drop, HLR.out] at hj
                    exact absurd hj (by omega)
                  · exact (HBU.out.block _ (by have h := (Array.getElem?_eq_some_iff.1 HOO.out).1; exact h) (by omega)).trans HOO.out
                  · exact ⟨HBU.out.os.trans HBW.out.os, HBU.out.tape.trans HBW.out.tape, HBU.out.output.trans HBW.out.output, Nat.le_trans HBW.out.size HBU.out.size, fun k hk => (HBU.out.block k (Nat.lt_of_lt_of_le hk HBW.out.size) (by omega)).trans (HBW.out.block k hk)⟩
              · go_wp2_with (go_at_call 46; refine (sha_add.calls (w.heap.size + 1) (some ad) c' (rest.take 64) s _ HGr.out HSL.out (by rw [List.length_take]; omega) HSS.out HCT.out hc64).mono ?_; rintro e w' ⟨hrow, hbut, rfl⟩; have HSS2 := Aside0.mk hrow; have HBU := Aside0.mk hbut; clear hrow hbut)
                go_roundg k1
                case measure => omega
                case rel =>
                  refine ⟨ad.add 64, c' - 64, rest.drop 64, addB s (rest.take 64), by rw [List.length_drop]; rfl, ⟨by rw [List.length_drop]; have := HLQ.out; omega⟩, ⟨by rw [List.length_drop]; have := HCC.out; omega⟩, ⟨by unfold Addr.add; split <;> exact HBK.out⟩, ⟨fun j hj => ?_⟩, HSS2, ⟨by simp [addB, addTo]⟩, ⟨HST.out⟩, ⟨?_⟩, ⟨?_⟩⟩
                  · rw [List.length_drop] at hj
                    have h := HSP.out _ HBU.out (64 + j) (by omega)
                    rw [add_add, h, rd_drop]
                  · exact (HBU.out.block _ (by have h := (Array.getElem?_eq_some_iff.1 HOO.out).1; exact h) (by omega)).trans HOO.out
                  · exact ⟨HBU.out.os.trans HBW.out.os, HBU.out.tape.trans HBW.out.tape, HBU.out.output.trans HBW.out.output, Nat.le_trans HBW.out.size HBU.out.size, fun k hk => (HBU.out.block k (Nat.lt_of_lt_of_le hk HBW.out.size) (by omega)).trans (HBW.out.block k hk)⟩
            | zero =>
              have hz : rest.length = 0 := by have := HLQ.out; omega
              have hst : s = stateB l := HST.out
              clear HST HLQ HCC HBK HC
              subst hst
              rw [hz]
              clear hz
              go_wp2_with (refine wpList_alloc_row rfl 42 rfl _ info24' ?_)
              have HO5 := Aside0.mk (heap_alloc_new wr (.cells (part8u 32 []) 42))
              have HS5 := Aside0.mk ((_root_.Go.heap_alloc_old wr (.cells (part8u 32 []) 42) (Array.getElem?_eq_some_iff.1 HSS.out).1).trans HSS.out)
              have HR5 := Aside0.mk ((_root_.Go.heap_alloc_old wr (.cells (part8u 32 []) 42) (Array.getElem?_eq_some_iff.1 HOO.out).1).trans HOO.out)
              have HB6 := Aside0.mk (HBW.out.alloc HBW.out.size (.cells (part8u 32 []) 42))
              have hgs : w.heap.size + 1 < wr.heap.size := (Array.getElem?_eq_some_iff.1 HSS.out).1
              clear HSS HOO HBW HG HR HBG
              generalize wr.alloc (.cells (part8u 32 []) 42) = wy at *
              generalize wr.heap.size = gz at *
              have Hgs := Aside0.mk hgs
              clear hgs
              clear wr
              go_loopw [48] (fun v48 wr => ∃ i : Nat, i ≤ 32 ∧ v48 = .int .i64 i ∧ Aside0 (wr.heap[gz]? = some (.cells (part8u 32 (outB (stateB l) i)) 42 (0, 0))) ∧ Aside0 (wr.heap[w.heap.size + 1]? = some (.cells (part32 8 (stateB l)) 62 (0, 0))) ∧ Aside0 (wr.heap[w.heap.size]? = some (.cells (part8u 32 []) 42 (0, 0))) ∧ Aside0 (Below w.heap.size w wr)) (fun v48 _ => 32 - (intOf v48).toNat)
              case atStart => exact ⟨0, by omega, rfl, HO5, HS5, HR5, HB6⟩
              case round =>
                obtain ⟨i, hi, rfl, HO7, HS7, HR7, HB7⟩ := hrel
                clear HO5 HS5 HR5 HB6 wy
                have hgs := Hgs.out
                by_cases hi32 : i < 32
                · have cs : wr.cell? ⟨w.heap.size + 1, i / 4, none⟩ = some (.int .u32 (rd (stateB l) ((i / 4 : Nat) : Int))) := by rw [cell_of_row _ _ _ _ _ _ HS7.out, part_at _ _ _ (by omega)]
                  have co : wr.cell? ⟨gz, i, none⟩ = some (.int .u8 (rd (outB (stateB l) i) i)) := by rw [cell_of_row _ _ _ _ _ _ HO7.out, p8_at _ _ _ hi32]
                  have hfw : wr.frozen? ⟨gz, i, none⟩ = false := frozen_of_row _ _ _ _ _ HO7.out
                  clear hgs
                  go_wp2
                  have hgs := Hgs.out
                  refine ⟨⟨i + 1, by omega, rfl, ⟨?_⟩, ⟨?_⟩, ⟨?_⟩, ⟨HB7.out.setCell (by show w.heap.size ≤ gz; omega) _⟩⟩, by simp only [intOf]; omega⟩
                  · refine (heap_setCell_same _ _ _ _ _ _ HO7.out).trans ?_
                    have hl : (outB (stateB l) i).length = i := by simp [outB]
                    have hp := p8_put 32 (outB (stateB l) i) (rd (stateB l) ((i / 4 : Nat) : Int) / 2 ^ (24 - i % 4 * 8) % 256) (by omega)
                    rw [hl] at hp
                    have e : outB (stateB l) i ++ [rd (stateB l) ((i / 4 : Nat) : Int) / 2 ^ (24 - i % 4 * 8) % 256] = outB (stateB l) (i + 1) := by simp [outB, List.range_succ]
                    rw [e] at hp
                    rw [← hp]
                    rfl
                  · rw [heap_setCell_other _ _ _ _ (by show w.heap.size + 1 ≠ gz; omega)]; exact HS7.out
                  · rw [heap_setCell_other _ _ _ _ (by show w.heap.size ≠ gz; omega)]; exact HR7.out
                · obtain rfl : i = 32 := by omega
                  go_wp2_with (first | (refine wpList_load_row rfl 42 _ rfl gz rfl 42 (part8u 32 (outB (stateB l) 32)) (0, 0) _ HO7.out Tryd.underlying42 rfl (by kernel_rfl) ?_) | (refine wpList_store_row rfl 42 _ _ rfl w.heap.size (part8u 32 (outB (stateB l) 32)) rfl rfl 42 (part8u 32 []) HR7.out (by kernel_rfl) (by kernel_rfl) (p8_one _ _) ?_))
                  exact bodyPost_ret (results_cell_row rfl _ _ w.heap.size 42 (part8u 32 (outB (stateB l) 32)) (0, 0) _ rfl (setRow_heap _ _ _ _ _ _ HR7.out) Tryd.underlying42 rfl (by kernel_rfl)) rfl ⟨rfl, below_setRow HB7.out (Nat.le_refl _) _⟩
end Go.Proofs.YtpnlpbbnakplhaaDoor
