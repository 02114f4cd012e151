/- roadsteadref03.Sum of the given program: the walk. -/
import Derived.Test.YtpnlpbbnakplhaaDoorRefMath
import Derived.Test.YtpnlpbbnakplhaaDoorRow
namespace Go.Proofs.YtpnlpbbnakplhaaDoor
open Go.RowKit Go.Proofs.YtpnlpbbnakplhaaDoorW.PrintWords Go.Proofs.YtpnlpbbnakplhaaDoorW.PrintLast Go.Proofs.YtpnlpbbnakplhaaDoorW.PrintMore
set_option linter.unusedVariables false
theorem info38 : (Tryd.prog.info? 38).map (fun i => (i.zero, i.size, i.bytes)) = some (some (.int .u32 0), 1, 4) := by kernel_rfl
theorem zeros32 : (#[.int .u8 0, .int .u8 0, .int .u8 0, .int .u8 0, .int .u8 0, .int .u8 0, .int .u8 0, .int .u8 0, .int .u8 0, .int .u8 0, .int .u8 0, .int .u8 0, .int .u8 0, .int .u8 0, .int .u8 0, .int .u8 0, .int .u8 0, .int .u8 0, .int .u8 0, .int .u8 0, .int .u8 0, .int .u8 0, .int .u8 0, .int .u8 0, .int .u8 0, .int .u8 0, .int .u8 0, .int .u8 0, .int .u8 0, .int .u8 0, .int .u8 0, .int .u8 0] : Array Value) = part8u 32 [] := by rw [← p8_zero]; rfl
theorem size24 (l : List Int) : (Tryd.prog.info? 42).map (·.size) = some (part8u 32 l).size := by rw [p8_size]; kernel_rfl
theorem one24 (l : List Int) : (part8u 32 l).size = 32 := p8_size _ _
theorem built24 : Tryd.prog.built 42 [] = some (part8u 32 []) := by rw [← p8_zero]; kernel_rfl
theorem wpList_build24 {ops : Array Oper} {rest : List Oper} {o : Oper} {a : Act} {w : World} {Q : Exit → Act → World → Prop} (hg : o.guard = none) (ho : o.op = .build 42 #[])
    (h : wpList Tryd.prog ops Q rest (a.put o.dst (.agg (part8u 32 []))) w) : wpList Tryd.prog ops Q (o :: rest) a w :=
  wpList_build hg 42 #[] ho (by rw [Array.map_empty, built24]; rfl) (by rw [Array.map_empty, built24]; exact h)
theorem block8 (A0 : Option Addr) (c0 : Nat) (l0 : List Int) (A1 : Option Addr) (c1 : Nat) (l1 : List Int) (r : List Int) (w : World) (h8 : l0.length = 8) (hr0 : Kd.C (Kd.int .u32) w A0 8 l0) (hc0 : 8 ≤ c0) (hr1 : Kd.C (Kd.int .u32) w A1 l1.length l1) (hc1 : l1.length ≤ c1) (h : Rblock.roadsteadref03_block.f 100 l0 l1 = some r) :
    Calls Tryd.prog 35 #[.slice A0 8 c0, .slice A1 l1.length c1] w fun e w' => ∃ v0_ : Value, e = .returned (v0_) ∧ Kd.R (Kd.int .u32) 38 w' w.heap.size (fun _ => True) v0_ r ∧ Below w.heap.size w w' := by
  have := Rblock.roadsteadref03_block.calls 100 A0 c0 l0 A1 c1 l1 r w (by rw [h8]; exact hr0) (by rw [h8]; exact hc0) hr1 hc1 h
  rwa [h8] at this
theorem padB_length (l : List Int) : ∃ q, (padB l).length = 64 * q ∧ (padB l).length / 64 = q ∧ (padB l).length ≤ l.length + 128 := by
  have h : (padB l).length = l.length + 1 + zerosOf (l.length + 1) + 8 := by
    simp only [padB, List.length_append, List.length_replicate, List.length_cons, List.length_nil, lenB_length]; try omega
  rw [h]
  unfold zerosOf
  exact ⟨(l.length + 1 + (120 - (l.length + 1) % 64) % 64 + 8) / 64, by omega, rfl, by omega⟩
theorem padB_range (l : List Int) (hb8 : ∀ x ∈ l, 0 ≤ x ∧ x < 256) : ∀ x ∈ padB l, 0 ≤ x ∧ x < 256 := by
  intro x hx
  simp only [padB, List.mem_append, List.mem_replicate, List.mem_cons, List.not_mem_nil, or_false, lenB, List.mem_map, List.mem_range] at hx
  rcases hx with ((h | rfl) | ⟨_, rfl⟩) | ⟨j, _, rfl⟩
  · exact hb8 x h
  · omega
  · omega
  · omega
theorem rd_range (p : List Int) (h : ∀ x ∈ p, 0 ≤ x ∧ x < 256) (i : Int) : 0 ≤ rd p i ∧ rd p i < 256 := by
  unfold rd
  by_cases hi : i.toNat < p.length
  · have := h p[i.toNat] (List.getElem_mem hi)
    simpa [List.getD, hi] using this
  · simp [List.getD, hi]
set_option maxRecDepth 100000 in
set_option maxHeartbeats 4000000 in
theorem ref_Sum.calls (A : Option Addr) (c : Nat) (l : List Int) (w : World) (hr : Kd.C (Kd.int .u8) w A l.length l) (hc : l.length ≤ c) (hn : l.length ≤ 1099511627776) (hb8 : ∀ x ∈ l, 0 ≤ x ∧ x < 256) :
    Calls Tryd.prog 22 #[.slice A l.length c] w fun e w' => e = .returned (.agg (part8u 32 (digest l))) ∧ Below w.heap.size w w' := by
  have HR := Aside0.mk hr
  clear hr
  go_enter Tryd.func22, Tryd.ntmps22
  go_wp2_with (refine wpList_alloc_row rfl 42 rfl _ info24' ?_)
  have HO1 := Aside0.mk (heap_alloc_new w (.cells (part8u 32 []) 42))
  have HB1 := Aside0.mk ((Below.refl w.heap.size w).alloc (Nat.le_refl _) (.cells (part8u 32 []) 42))
  have hz1 : (w.alloc (.cells (part8u 32 []) 42)).heap.size = w.heap.size + 1 := by show (w.heap.push _).size = _; simp
  generalize w.alloc (.cells (part8u 32 []) 42) = w1 at *
  have Hz1 := Aside0.mk hz1
  clear hz1
  go_loopw [3, 4] (fun v3 v4 wr => ∃ i : Nat, i ≤ 8 ∧ v4 = .int .i64 i ∧ Aside0 (Kd.R (Kd.int .u32) 38 wr w1.heap.size (fun _ => True) v3 (begunNums.take i)) ∧ Aside0 (Below w1.heap.size w1 wr)) (fun _ v4 _ => 8 - (intOf v4).toNat)
  case atStart => exact ⟨0, by omega, rfl, ⟨Kd.R_nil _ _ _ _ _⟩, ⟨Below.refl _ _⟩⟩
  case round =>
    obtain ⟨i, hi, rfl, HO, HB⟩ := hrel
    by_cases hi8 : i < 8
    · as_aux_lemma =>
      go_wp2_with fail
      refine (RBegin.roadsteadref03_Begin.calls _ _ _ (begin_pure _)).mono ?_
      rintro e w2 ⟨rfl, hd⟩
      have HB2 := Aside0.mk (below_step HB.out hd)
      have HO2 := Aside0.mk (Kd.R_below HO.out hd)
      clear hd
      have hbi : beginI (i : Int) = rd begunNums i := by unfold beginI; rw [if_pos (by omega)]
      rw [hbi]
      go_wp2_with ((with_reducible refine gate_builtin (b := .append) (xs := #[.tmp 13, .tmp 16]) rfl ?_); at_builtin; refine Kd.R_append (Kd.int .u32) (w0 := w1) w1.heap.size rfl (.tmp 13) (.tmp 16) 52 38 (.int .u32 0) 4 rfl Tryd.underlying52 info38 rfl (by decide) (by omega) _ (begunNums.take i) (rd begunNums i) [.int .u32 (rd begunNums i)] (fun _ => True) (fun _ => False) rfl rfl ?aP (fun _ hk => hk.elim) ?aF ?aO ?aB ?aS ?aL ?_; (case aP => exact rfl); (case aB => exact HB2.out); (case aF => exact (fun _ _ => trivial)); (case aO => exact HO2.out); (case aS => exact HB2.out.size); (case aL => simp only [List.length_take]; omega); intro v3 w5 ho hb hg hat; have HO3 := Aside0.mk ho; have HB5 := Aside0.mk hb; clear ho hb hg hat)
      go_roundw
      case rel =>
        refine ⟨i + 1, by omega, by go_num, ⟨?_⟩, HB5⟩
        have h := HO3.out
        have e : begunNums.take i ++ [rd begunNums i] = begunNums.take (i + 1) := by
          rw [List.take_add_one]
          congr 1
          have hl : i < begunNums.length := hi8
          simp [rd, List.getD, hl]
        rwa [e] at h
      case measure => simp [intOf]; omega
    · obtain rfl : i = 8 := by omega
      go_wp2_with fail
      have hbb := below_step HB1.out HB.out
      refine (Rpadded.roadsteadref03_padded.calls 100 A c l _ _ (Kd.C_below HR.out hbb) hc (padded_pure l hn)).mono ?_
      rintro e w2 ⟨v2, rfl, ho, hb⟩
      have HP := Aside0.mk ho
      have HB2 := Aside0.mk (below_step hbb hb)
      have HBr := Aside0.mk (below_step HB.out hb)
      have HS := Aside0.mk (Kd.R_below HO.out hb)
      obtain ⟨Ap, cp, rfl⟩ := Kd.R_slice ho
      clear ho hb hbb HO HB
      go_wp2_with fail
      obtain ⟨q, hq, hqd, hql⟩ := padB_length l
      have hst : blocksN q begunNums (padB l) = stateB l := by unfold stateB; rw [hqd]
      have hpr := padB_range l hb8
      obtain ⟨A3, c3, rfl⟩ := Kd.R_slice HS.out
      have hs3 := Kd.R_reads' HS.out
      rw [show begunNums.take 8 = begunNums from rfl] at hs3
      have HPR := Aside0.mk (Kd.R_reads' HP.out)
      have hq0 : q ≤ 17179869190 := by omega
      have hop : w2.heap[w.heap.size]? = some (.cells (part8u 32 []) 42 (0, 0)) := by
        rw [HBr.out.block _ (by rw [Hz1.out]; omega)]; exact HO1.out
      have HOP := Aside0.mk hop
      clear hop HP HS hqd hql hn
      have HPRng := Aside0.mk hpr
      have HST0 := Aside0.mk hst
      have HB8 := Aside0.mk hb8
      have HC0 := Aside0.mk hc
      clear hst hpr hb8 hc
      generalize padB l = D at *
      rw [hq] at HPR ⊢
      have HQ := Aside0.mk hq
      clear hq HBr HB1 HO1 Hz1

      go_loopw [3, 6] (fun v3 v6 wr => ∃ (n : Nat) (s : List Int) (A3 : Option Addr) (c3 : Nat), n ≤ q ∧ v6 = .int .i64 ((64 * n : Nat) : Int) ∧ v3 = .slice A3 8 c3 ∧ 8 ≤ c3 ∧ Aside0 (s.length = 8) ∧ Aside0 (blocksN (q - n) s (D.drop (64 * n)) = stateB l) ∧ Aside0 (Kd.C (Kd.int .u32) wr A3 8 s) ∧ Aside0 (Below w2.heap.size w2 wr)) (fun _ v6 _ => 64 * q - (intOf v6).toNat)
      case atStart => exact ⟨0, begunNums, A3, c3, by omega, rfl, rfl, hs3.2.1, ⟨rfl⟩, HST0, ⟨hs3.2.2⟩, ⟨Below.refl _ _⟩⟩
      case round =>
        clear hs3 HST0
        obtain ⟨n, s, A4, c4, hnq, rfl, rfl, hc4, hs8, HST, HC4, HB4⟩ := hrel
        by_cases hlt : n < q
        · as_aux_lemma =>
          have hcw := Kd.C_below HPR.out.2.2 HB4.out
          have hPl := HQ.out
          have hcp := HPR.out.2.1
          obtain ⟨ad, rfl, _⟩ := Kd.at_int hcw 0 (by omega) (by omega)
          have hcells : ∀ j : Nat, j < D.length → wr.cell? (ad.add j) = some (.int .u8 (rd D j)) := by
            intro j hj
            obtain ⟨ad', e', hc'⟩ := Kd.at_int hcw (j : Int) (by omega) (by omega)
            cases e'
            simpa using hc'
          have hBl : ((D.drop (64 * n)).take 64).length = 64 := by rw [List.length_take, List.length_drop]; omega
          have hpc : Kd.C (Kd.int .u8) wr (some (ad.add (64 * n))) ((D.drop (64 * n)).take 64).length ((D.drop (64 * n)).take 64) := by
            refine Kd.C_of_reads (d := 0) (h1 := fun _ => rfl) ⟨rfl, by omega, fun _ => ⟨_, rfl, fun j hj => ?_⟩⟩
            rw [add_add, hcells _ (by omega)]
            have hj64 : j < 64 := by omega
            simp only [rd, List.getD, Int.toNat_natCast]
            rw [List.getElem?_take_of_lt hj64, List.getElem?_drop]
          have hrng := rd_range ((D.drop (64 * n)).take 64) (fun x hx => HPRng.out x (List.mem_of_mem_drop (List.mem_of_mem_take hx)))
          have HW := Aside0.mk (words_pure ((D.drop (64 * n)).take 64) hBl hrng)
          have HPC := Aside0.mk hpc
          have HBL := Aside0.mk hBl
          clear hcells hcw hpc hBl hrng hPl
          have hcp1 : 64 * n + 64 ≤ cp := by omega
          go_wp2_with fail
          rw [show Value.slice (some (ad.add (64 * n))) 64 (cp - 64 * n) = Value.slice (some (ad.add (64 * n))) ((D.drop (64 * n)).take 64).length (cp - 64 * n) by rw [HBL.out]]
          refine (Rwords.roadsteadref03_words.calls 100 _ _ ((D.drop (64 * n)).take 64) _ _ HPC.out (by rw [HBL.out]; omega) HW.out).mono ?_
          rintro e w5 ⟨vw, rfl, ho, hb⟩
          have HBB := Aside0.mk (below_step HB4.out hb)
          have hcs := Kd.C_below HC4.out hb
          obtain ⟨Aw, cw, rfl⟩ := Kd.R_slice ho
          have hrw := Kd.R_reads' ho
          clear ho hb
          have HSP := Aside0.mk (step_pure s ((D.drop (64 * n)).take 64) hs8.out)
          have hcs' := hcs
          have HCS := Aside0.mk hcs'
          have HRW := Aside0.mk hrw
          clear hcs hcs' hrw
          go_wp2_with fail
          refine (block8 A4 c4 s Aw cw _ _ _ hs8.out HCS.out hc4 HRW.out.2.2 HRW.out.2.1 HSP.out).mono ?_
          rintro e w6 ⟨vb, rfl, ho, hb⟩
          have HB9 := Aside0.mk (below_step HBB.out hb)
          obtain ⟨Ab, cb, rfl⟩ := Kd.R_slice ho
          have hrb := Kd.R_reads' ho
          have hl8 : (addB s ((D.drop (64 * n)).take 64)).length = 8 := by simp [addB, addTo]
          rw [hl8] at hrb
          rw [hl8]
          have HRB := Aside0.mk hrb
          have HL8 := Aside0.mk hl8
          clear ho hb hrb hl8
          go_wp2_with fail
          go_roundw
          case rel =>
            refine ⟨n + 1, addB s ((D.drop (64 * n)).take 64), Ab, cb, by omega, by go_num, rfl, HRB.out.2.1, HL8, ⟨?_⟩, ⟨HRB.out.2.2⟩, HB9⟩
            have h := HST.out
            rw [show q - n = (q - (n + 1)) + 1 by omega, blocksN, List.drop_drop] at h
            exact h
          case measure => simp [intOf]; omega
        · obtain rfl : n = q := by omega
          as_aux_lemma =>
          have hs : s = stateB l := by have h := HST.out; rw [Nat.sub_self, blocksN] at h; exact h
          have hO : wr.heap[w.heap.size]? = some (.cells (part8u 32 []) 42 (0, 0)) := by
            rw [HB4.out.block _ (Array.getElem?_eq_some_iff.1 HOP.out).1]; exact HOP.out
          have hBw : Below w.heap.size w wr := below_step HB2.out HB4.out
          subst hs
          have hlast : ∀ i : Nat, i < 8 → ∃ ad : Addr, A4 = some ad ∧ wr.cell? (ad.add i) = some (.int .u32 (rd (stateB l) i)) := by
            intro i hi
            obtain ⟨ad, e, hc⟩ := Kd.at_int HC4.out (i : Int) (by omega) (by omega)
            exact ⟨ad, e, by simpa using hc⟩
          obtain ⟨ad, rfl, _⟩ := hlast 0 (by omega)
          have hcl : ∀ i : Nat, i < 8 → wr.cell? (ad.add i) = some (.int .u32 (rd (stateB l) i)) := by
            intro i hi
            obtain ⟨ad', e, hc⟩ := hlast i hi
            cases e
            exact hc
          have hablk : ad.block < wr.heap.size := block_lt_of_cell (hcl 0 (by omega))
          have HCL := Aside0.mk hcl
          have HBW := Aside0.mk hBw
          have HOO := Aside0.mk hO
          have HAB := Aside0.mk hablk
          clear hlast hcl hBw hO HST HC4 HB4 HPR HPRng HOP HB2 HB8 HQ hs8 hablk
          go_wp2_with (first | (refine wpList_build24 rfl rfl ?_) | (refine wpList_alloc_row rfl 42 rfl _ info24' ?_) | (refine wpList_store_row rfl 42 _ _ rfl _ (part8u 32 []) rfl rfl 42 (part8u 32 []) (heap_alloc_new _ _) (size24 _) ((p8_size _ _).trans (p8_size _ _).symm) (p8_one _ _) ?_))
          have hzs : ((wr.alloc (.cells (part8u 32 []) 42)).setRow wr.heap.size (part8u 32 [])).heap.size = wr.heap.size + 1 := by
            rw [setRow_size]; show (wr.heap.push _).size = _; simp
          have HO5 := Aside0.mk (setRow_heap _ _ _ (part8u 32 []) _ _ (heap_alloc_new wr (.cells (part8u 32 []) 42)))
          have HR5 := Aside0.mk ((setRow_other _ _ _ (part8u 32 []) (Nat.ne_of_lt (Array.getElem?_eq_some_iff.1 HOO.out).1)).trans ((_root_.Go.heap_alloc_old wr (.cells (part8u 32 []) 42) (Array.getElem?_eq_some_iff.1 HOO.out).1).trans HOO.out))
          have HB6 := Aside0.mk (below_setRow (HBW.out.alloc HBW.out.size (.cells (part8u 32 []) 42)) HBW.out.size (part8u 32 []))
          have HC5 : Aside0 (∀ i : Nat, i < 8 → ((wr.alloc (.cells (part8u 32 []) 42)).setRow wr.heap.size (part8u 32 [])).cell? (ad.add i) = some (.int .u32 (rd (stateB l) i))) := ⟨fun i hi => by
            have hb : (ad.add i).block = ad.block := by unfold Addr.add; split <;> rfl
            rw [← HCL.out i hi]
            unfold World.cell?
            rw [setRow_other _ _ _ _ (by rw [hb]; exact Nat.ne_of_lt HAB.out), _root_.Go.heap_alloc_old wr _ (by rw [hb]; exact HAB.out)]⟩
          have HGS := Aside0.mk (Array.getElem?_eq_some_iff.1 HOO.out).1
          have HAN := Aside0.mk (Nat.ne_of_lt HAB.out)
          clear HOO HBW HCL hzs HAB
          generalize (wr.alloc (.cells (part8u 32 []) 42)).setRow wr.heap.size (part8u 32 []) = wy at *
          generalize wr.heap.size = gz at *
          go_loopw [8] (fun v8 wr => ∃ i : Nat, i ≤ 32 ∧ v8 = .int .i64 i ∧ Aside0 (wr.heap[gz]? = some (.cells (part8u 32 (outB (stateB l) i)) 42 (0, 0))) ∧ Aside0 (∀ i : Nat, i < 8 → wr.cell? (ad.add i) = some (.int .u32 (rd (stateB l) i))) ∧ Aside0 (wr.heap[w.heap.size]? = some (.cells (part8u 32 []) 42 (0, 0))) ∧ Aside0 (Below w.heap.size w wr)) (fun v8 _ => 32 - (intOf v8).toNat)
          case atStart => exact ⟨0, by omega, rfl, HO5, HC5, HR5, HB6⟩
          case round =>
            obtain ⟨i, hi, rfl, HO7, HC7, HR7, HB7⟩ := hrel
            clear HO5 HC5 HR5 HB6
            by_cases hi32 : i < 32
            · have cs := HC7.out (i / 4) (by omega)
              have co : wr.cell? ⟨gz, i, none⟩ = some (.int .u8 (rd (outB (stateB l) i) i)) := by rw [cell_of_row _ _ _ _ _ _ HO7.out, p8_at _ _ _ hi32]
              have hfw : wr.frozen? ⟨gz, i, none⟩ = false := frozen_of_row _ _ _ _ _ HO7.out
              go_wp2
              have hgs := HGS.out
              refine ⟨⟨i + 1, by omega, rfl, ⟨?_⟩, ⟨fun i2 hi2 => ?_⟩, ⟨?_⟩, ⟨HB7.out.setCell (by show w.heap.size ≤ gz; omega) _⟩⟩, by simp only [intOf]; omega⟩
              · refine (heap_setCell_same _ _ _ _ _ _ HO7.out).trans ?_
                have hl : (outB (stateB l) i).length = i := by simp [outB]
                have hp := p8_put 32 (outB (stateB l) i) (rd (stateB l) ((i / 4 : Nat) : Int) / 2 ^ (24 - i % 4 * 8) % 256) (by omega)
                rw [hl] at hp
                have e : outB (stateB l) i ++ [rd (stateB l) ((i / 4 : Nat) : Int) / 2 ^ (24 - i % 4 * 8) % 256] = outB (stateB l) (i + 1) := by simp [outB, List.range_succ]
                rw [e] at hp
                rw [← hp, Nat.mul_comm 8]
                rfl
              · have hb : (ad.add i2).block = ad.block := by unfold Addr.add; split <;> rfl
                rw [← HC7.out i2 hi2]
                unfold World.cell?
                rw [heap_setCell_other _ _ _ _ (by rw [hb]; exact HAN.out)]
              · rw [heap_setCell_other _ _ _ _ (by show w.heap.size ≠ gz; omega)]; exact HR7.out
            · obtain rfl : i = 32 := by omega
              go_wp2_with (first | (refine wpList_load_row rfl 42 _ rfl gz rfl 42 (part8u 32 (outB (stateB l) 32)) (0, 0) _ HO7.out Tryd.underlying42 rfl (size24 _) ?_) | (refine wpList_store_row rfl 42 _ _ rfl w.heap.size (part8u 32 (outB (stateB l) 32)) rfl rfl 42 (part8u 32 []) HR7.out (size24 _) ((p8_size _ _).trans (p8_size _ _).symm) (p8_one _ _) ?_))
              exact bodyPost_ret (results_cell_row rfl _ _ w.heap.size 42 (part8u 32 (outB (stateB l) 32)) (0, 0) _ rfl (setRow_heap _ _ _ _ _ _ HR7.out) Tryd.underlying42 rfl (size24 _)) rfl ⟨rfl, below_setRow HB7.out (Nat.le_refl _) _⟩
