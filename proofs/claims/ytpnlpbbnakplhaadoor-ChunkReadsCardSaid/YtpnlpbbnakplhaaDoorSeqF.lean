/- chunk.Pieces and chunk.Piece of the given program: their walks. -/
import Derived.Test.YtpnlpbbnakplhaaDoorSeqE
namespace Go.Proofs.YtpnlpbbnakplhaaDoor
open Go.RowKit Go.Shelf Go.Proofs.YtpnlpbbnakplhaaDoorW.PrintWords Go.Proofs.YtpnlpbbnakplhaaDoorW.PrintLast Go.Proofs.YtpnlpbbnakplhaaDoorW.PrintMore
attribute [local go_sem] Oper.semAt_some
set_option linter.unusedVariables false
def countOf (n : Int) : Int := if 0 ≤ n ∧ n ≤ 1048576 then 2 + (n + 99) / 100 else 0
theorem chunk_Pieces_calls (n : Int) (w : World) : Calls Tryd.prog 16 #[.int .i64 n] w fun e w' => e = .returned (.int .i64 (countOf n)) ∧ w' = w := by
  by_cases h : n < 0
  · have h1 : decide (n < 0) = true := decide_eq_true h
    have hc : countOf n = 0 := by unfold countOf; rw [if_neg (by omega)]
    rw [hc]
    go_enter Tryd.func16, Tryd.ntmps16
    go_wp2
    go_ret
    exact ⟨rfl, rfl⟩
  · have h1 : decide (n < 0) = false := decide_eq_false h
    by_cases h2 : 1048576 < n
    · have h3 : decide ((1048576 : Int) < n) = true := decide_eq_true h2
      have hc : countOf n = 0 := by unfold countOf; rw [if_neg (by omega)]
      rw [hc]
      go_enter Tryd.func16, Tryd.ntmps16
      go_wp2
      go_ret
      exact ⟨rfl, rfl⟩
    · have h3 : decide ((1048576 : Int) < n) = false := decide_eq_false h2
      have hc : countOf n = 2 + (n + 99) / 100 := by unfold countOf; rw [if_pos (by omega)]
      rw [hc]
      obtain ⟨m, rfl⟩ := Int.eq_ofNat_of_zero_le (show 0 ≤ n by omega)
      have ht : Int.tdiv ((m : Int) + 99) 100 = ((m : Int) + 99) / 100 := Int.tdiv_eq_ediv_of_nonneg (by omega)
      have h2' : (m : Int) ≤ 1048576 := by omega
      go_enter Tryd.func16, Tryd.ntmps16
      go_wp2
      go_ret
      exact ⟨by first | rfl | (simp; done) | (simp; omega), rfl⟩
def PieceJ (w : World) (Bi Br l D : Nat) (r : Loop) (i : Nat) (O : Blocks) (pre : List (List Int)) (W : World) : Prop :=
  Side w [(l, .loop r), (D, .deferred (some [])), (Br, .cells #[.slice none 0 0] 22 (0, 0)), (Bi, .cells #[.int .i64 ((i : Int) - pre.length)] 3 (0, 0))] O W ∧ pre.length ≤ i
def PieceX (w : World) (Br l D : Nat) (r : Loop) (b : List Int) (i : Nat) (O : Blocks) (pre : List (List Int)) (W : World) : Prop :=
  Side w [(l, .loop { r with state := .done, pending := some .ret }), (D, .deferred (some []))] O W ∧ ∃ ad c x, W.heap[Br]? = some (.cells #[.slice (some ad) (List.length x) c] 22 (0, 0)) ∧ ¬ O Br ∧ Reads W (some ad) x ∧ ¬ O ad.block ∧ x.length ≤ c ∧ 0 < x.length ∧ (ChunkPure.pieces Z b)[i]? = some x ∧ w.heap.size ≤ ad.block
theorem pieceJ_closed (w : World) (Bi Br l D : Nat) (r : Loop) (i : Nat) (pre : List (List Int)) : Closed (fun O W => PieceJ w Bi Br l D r i O pre W) := by
  rintro O O' W W' ⟨hs, h⟩ hk ho
  exact ⟨hs.step hk ho, h⟩
theorem pieceX_closed (w : World) (Br l D : Nat) (r : Loop) (b : List Int) (i : Nat) (pre : List (List Int)) : Closed (fun O W => PieceX w Br l D r b i O pre W) := by
  rintro O O' W W' ⟨hs, ad, c, x, h1, h2, h3, h4, h5, h6, h7⟩ hk ho
  exact ⟨hs.step hk ho, ad, c, x, hk.block h1 h2, fun hO => h2 (ho _ (Array.getElem?_eq_some_iff.1 h1).1 hO), hk.reads h3 h4, fun hO => h4 (ho _ (reads_block h3 h6) hO), h5, h6, h7⟩
def pieceOf (b : List Int) (i : Int) : List Int := if 0 ≤ i then ((ChunkPure.pieces Z b)[i.toNat]?).getD [] else []
theorem results_box {fn : Func} {p : Tmp} (h : fn.results = #[.cell p 22]) (tmps : Array Value) (w : World) (g : Nat) (u : Value) (hp : tmps.getD p undef = .pointer (some ⟨g, 0, none⟩)) (hg : w.heap[g]? = some (.cells #[u] 22 (0, 0))) : (results fn tmps).run Tryd.prog w = .ok u w := by
  have hp' : tmps[p]?.getD undef = .pointer (some ⟨g, 0, none⟩) := by simpa using hp
  have hc := cell_of_box hg
  simp [results, h, hp', asAddr, loadVar, isAgg, run_underlying Tryd.underlying22, hc]
set_option maxRecDepth 100000 in
set_option maxHeartbeats 4000000 in
theorem chunk_Piece_in (n : Nat) (hn : Aside0 (2 ≤ n)) (A : Option Addr) (c : Nat) (b : List Int) (i : Nat) (w : World) (hG : Glob w) (hR : Reads w A b) (hc : b.length ≤ c) (hlen : b.length ≤ 1048576) (hi : i < (ChunkPure.pieces Z b).length) :
    CallsIn Fence.wide n Tryd.prog 20 #[.slice A b.length c, .int .i64 i] w fun e w' => ∃ ad c x, e = .returned (.slice (some ad) (List.length x) c) ∧ (ChunkPure.pieces Z b)[i]? = some x ∧ 0 < x.length ∧ x.length ≤ c ∧ Reads w' (some ad) x ∧ Below w.heap.size w w' ∧ w.heap.size ≤ ad.block := by
  have hle : decide ((i : Int) < 0) = false := decide_eq_false (by omega)
  have hcnt : countOf b.length = ((ChunkPure.pieces Z b).length : Nat) := by rw [ChunkPure.pieces_count]; unfold countOf; rw [if_pos (by omega)]; omega
  have hge : decide (((ChunkPure.pieces Z b).length : Int) ≤ (i : Int)) = false := decide_eq_false (by omega)
  have hge2 : decide ((ChunkPure.pieces Z b).length ≤ i) = false := decide_eq_false (by omega)
  have hmix : Tryd.prog.follows .mixedOrders = true := by kernel_rfl
  refine callsIn_of_wp_marks Tryd.func20 rfl trivial (wpIn_calm ?_) rfl
  simp only [Tryd.ntmps20, List.size_toArray, List.length_cons, List.length_nil, Nat.reduceAdd, Nat.reduceSub, Array.replicate_succ, Array.replicate_zero, List.push_toArray, List.append_toArray, List.nil_append, List.cons_append]
  gi_wp2
  rename_i K1 hK1 K2 hK2
  have hnext : K2 { tmps := #[.slice A b.length c, .int .i64 i, undef, .pointer (some ⟨w.heap.size, 0, none⟩), .pointer (some ⟨w.heap.size + 1, 0, none⟩), undef, .int .i64 i, .bool false, .bool false, .int .i64 i, .slice A b.length c, .int .i64 b.length, .int .i64 (ChunkPure.pieces Z b).length, .bool false, .bool false, undef, undef, undef, undef, undef, undef, undef, undef], defers := [] } ((w.alloc (.cells #[.int .i64 i] 3)).alloc (.cells #[.slice none 0 0] 22)).drew := by
    apply hK2
    clear hK2
    have hz1 : (w.alloc (.cells #[.int .i64 i] 3)).heap.size = w.heap.size + 1 := by show (w.heap.push _).size = _; simp
    have hz2 : ((w.alloc (.cells #[.int .i64 i] 3)).alloc (.cells #[.slice none 0 0] 22)).drew.heap.size = w.heap.size + 2 := by show (Array.push _ _).size = _; simp [hz1]
    have hg0 : ((w.alloc (.cells #[.int .i64 i] 3)).alloc (.cells #[.slice none 0 0] 22)).drew.heap[w.heap.size]? = some (.cells #[.int .i64 i] 3 (0, 0)) := by
      show ((w.alloc (.cells #[.int .i64 i] 3)).alloc (.cells #[.slice none 0 0] 22)).heap[w.heap.size]? = _
      rw [Below.heap_alloc _ _ _ (by omega)]; exact World.alloc_heap_new w _
    have hg1 : ((w.alloc (.cells #[.int .i64 i] 3)).alloc (.cells #[.slice none 0 0] 22)).drew.heap[w.heap.size + 1]? = some (.cells #[.slice none 0 0] 22 (0, 0)) := by
      show ((w.alloc (.cells #[.int .i64 i] 3)).alloc (.cells #[.slice none 0 0] 22)).heap[w.heap.size + 1]? = _
      rw [← hz1]; exact World.alloc_heap_new _ _
    have hb2 := (((Below.refl w.heap.size w).alloc (Nat.le_refl _) (.cells #[.int .i64 i] 3)).alloc (by omega) (.cells #[.slice none 0 0] 22)).drew
    generalize ((w.alloc (.cells #[.int .i64 i] 3)).alloc (.cells #[.slice none 0 0] 22)).drew = w2 at *
    clear hz1 hge hge2 hle
    gi_wp2
    refine ⟨trivial, fun h => (by cases h), ?_⟩
    refine (callsIn_wide.2 (pieces_calls A b.length c _)).mono ?_
    rintro e w1 ⟨rfl, rfl⟩
    rw [hz2]
    gi_wp2
    rename_i K3 hK3
    refine Go.Rounds.range_rec (gf := 40) (lb := #[.pointer (some ⟨w.heap.size + 2, 0, none⟩)]) rfl (by have := hn.out; omega) rfl trivial (enters_of Tryd.func40 (by kernel_rfl) rfl) ?_
    intro r hrf hrs hrp hrt hrps hra hrb
    have hz3 : (w2.alloc (.cells #[.slice A b.length c] 22)).heap.size = w.heap.size + 3 := by show (Array.push _ _).size = _; simp [hz2]
    have hz4 : ((w2.alloc (.cells #[.slice A b.length c] 22)).alloc (.deferred (some []))).heap.size = w.heap.size + 4 := by show (Array.push _ _).size = _; simp [hz3]
    have hz5 : (((w2.alloc (.cells #[.slice A b.length c] 22)).alloc (.deferred (some []))).alloc (.loop r)).heap.size = w.heap.size + 5 := by show (Array.push _ _).size = _; simp [hz4]
    have hh0 : (((w2.alloc (.cells #[.slice A b.length c] 22)).alloc (.deferred (some []))).alloc (.loop r)).heap[w.heap.size]? = some (.cells #[.int .i64 i] 3 (0, 0)) := by
      rw [Below.heap_alloc _ _ _ (by omega), Below.heap_alloc _ _ _ (by omega), Below.heap_alloc _ _ _ (by omega)]; exact hg0
    have hh1 : (((w2.alloc (.cells #[.slice A b.length c] 22)).alloc (.deferred (some []))).alloc (.loop r)).heap[w.heap.size + 1]? = some (.cells #[.slice none 0 0] 22 (0, 0)) := by
      rw [Below.heap_alloc _ _ _ (by omega), Below.heap_alloc _ _ _ (by omega), Below.heap_alloc _ _ _ (by omega)]; exact hg1
    have hh2 : (((w2.alloc (.cells #[.slice A b.length c] 22)).alloc (.deferred (some []))).alloc (.loop r)).heap[w.heap.size + 2]? = some (.cells #[.slice A b.length c] 22 (0, 0)) := by
      rw [Below.heap_alloc _ _ _ (by omega), Below.heap_alloc _ _ _ (by omega), ← hz2]; exact World.alloc_heap_new _ _
    have hh3 : (((w2.alloc (.cells #[.slice A b.length c] 22)).alloc (.deferred (some []))).alloc (.loop r)).heap[w.heap.size + 3]? = some (.deferred (some [])) := by
      rw [Below.heap_alloc _ _ _ (by omega), ← hz3]; exact World.alloc_heap_new _ _
    have hh4 : (((w2.alloc (.cells #[.slice A b.length c] 22)).alloc (.deferred (some []))).alloc (.loop r)).heap[w.heap.size + 4]? = some (.loop r) := by
      rw [← hz4]; exact World.alloc_heap_new _ _
    have hb5 := ((hb2.alloc (by omega) (.cells #[.slice A b.length c] 22)).alloc (by omega) (.deferred (some []))).alloc (by omega) (.loop r)
    rw [hz3]
    generalize ((w2.alloc (.cells #[.slice A b.length c] 22)).alloc (.deferred (some []))).alloc (.loop r) = w5 at *
    clear hz2 hz3 hz4 hg0 hg1 hb2 w2
    have harr : ∀ (x y : Value), (#[x] ++ #[y] : Array Value) = #[x, y] := fun _ _ => rfl
    rw [harr, show w.heap.size + 3 + 1 = w.heap.size + 4 from rfl]
    clear harr
    have hY : Yields (w.heap.size + 4) w (ChunkPure.pieces Z b) (PieceJ w w.heap.size (w.heap.size + 1) (w.heap.size + 4) (w.heap.size + 3) r i) (PieceX w (w.heap.size + 1) (w.heap.size + 4) (w.heap.size + 3) r b i) := by
      refine ⟨pieceJ_closed w _ _ _ _ r i, pieceX_closed w _ _ _ r b i, ?_⟩
      clear hh0 hh1 hh2 hh3 hh4 hb5 hz5 hK3 K3 w5 hR hG hcnt hmix K2
      intro m O O2 pre x ad cx W hJ hB hO hO2 hn2 hOx hr hx hcx hp
      obtain ⟨hs, hpi⟩ := hJ
      have hl := hs.fixAt (g := w.heap.size + 4) (o := .loop r) (by simp)
      refine Go.Rounds.yield_of (r := r) hrf hl.1 hrs (by rw [hrps]; rfl) ?_
      generalize hbz : ({ r with state := .busy } : Loop) = rb
      rw [hra, hrt, hrps, hrb]
      clear hra hrb hrt hrps
      simp only [List.zip_toArray, List.zip_cons_cons, List.zip_nil_right, List.foldl_toArray', List.foldl_cons, List.foldl_nil, List.setIfInBounds_toArray, List.set_cons_succ, List.set_cons_zero, List.size_toArray, List.length_cons, List.length_nil]
      gi_wp2
      refine ⟨hl.1, ?_⟩
      have hsb := (hs.sub (fx' := [(w.heap.size + 3, .deferred (some [])), (w.heap.size + 1, .cells #[.slice none 0 0] 22 (0, 0)), (w.heap.size, .cells #[.int .i64 ((i : Int) - pre.length)] 3 (0, 0))]) (fun p hp => by simp only [List.mem_cons, List.not_mem_nil, or_false] at hp ⊢; rcases hp with h | h | h <;> simp [h])).setObj (.loop rb) hl.1 (by omega) hl.2 (fun p hp => by simp only [List.mem_cons, List.not_mem_nil, or_false] at hp; rcases hp with rfl | rfl | rfl <;> (dsimp only; omega))
      have hkb := (Kept.refl (fun k => O k ∨ k < w.heap.size) W).putObj (w.heap.size + 4) (.loop rb) (.inl (fun h => h.elim hl.2 (fun h => by omega)))
      have hxb := hkb.reads hr (.inl hOx)
      have hpx : (ChunkPure.pieces Z b)[pre.length]? = some x := by
        obtain ⟨t, ht⟩ := hp
        rw [← ht, List.append_assoc, List.getElem?_append_right (Nat.le_refl _), Nat.sub_self]
        rfl
      generalize W.putObj (w.heap.size + 4) (.loop rb) = Wb at *
      have hbi := hsb.fixAt (g := w.heap.size) (o := .cells #[.int .i64 ((i : Int) - pre.length)] 3 (0, 0)) (by simp)
      have hbr := hsb.fixAt (g := w.heap.size + 1) (o := .cells #[.slice none 0 0] 22 (0, 0)) (by simp)
      have hci := cell_of_box hbi.1
      have hfi := frozen_of_box hbi.1
      have hcr := cell_of_box hbr.1
      have hfr := frozen_of_box hbr.1
      have HS := Aside0.mk hsb
      have HX := Aside0.mk hxb
      have HK := Aside0.mk hkb
      have HBI := Aside0.mk hbi
      have HBR := Aside0.mk hbr
      have HPX := Aside0.mk hpx
      clear hsb hxb hkb hs hl hr hp hbi hbr hpx
      by_cases he : i = pre.length
      · have he0 : (i : Int) - pre.length = 0 := by omega
        have HE := Aside0.mk he
        clear he
        gi_wp2
        have hs6 := (HS.out.sub (fx' := [(w.heap.size + 4, .loop rb), (w.heap.size + 3, .deferred (some []))]) (fun p hp => by simp only [List.mem_cons, List.not_mem_nil, or_false] at hp ⊢; rcases hp with h | h <;> simp [h])).setBox (u' := .slice (some ad) x.length cx) HBR.out.1 (by omega) HBR.out.2 (fun p hp => by simp only [List.mem_cons, List.not_mem_nil, or_false] at hp; rcases hp with rfl | rfl <;> (dsimp only; omega))
        have hk6 := HK.out.setCell ⟨w.heap.size + 1, 0, none⟩ (.slice (some ad) x.length cx) (.inl (fun h => h.elim HBR.out.2 (fun h => by have : w.heap.size + 1 < w.heap.size := h; omega)))
        have hx6 := ((Kept.refl (fun k => k ≠ w.heap.size + 1) Wb).setCell ⟨w.heap.size + 1, 0, none⟩ (.slice (some ad) x.length cx) (.inl (fun h => h rfl))).reads HX.out (fun e => HBR.out.2 (e ▸ hOx))
        clear HS HK HX HBI HBR hci hfi hcr hfr
        generalize Wb.setCell ⟨w.heap.size + 1, 0, none⟩ (.slice (some ad) x.length cx) = w6 at *
        have hl6 := hs6.fixAt (g := w.heap.size + 4) (o := .loop rb) (by simp)
        have hr6 := hs6.fixAt (g := w.heap.size + 1) (o := .cells #[.slice (some ad) x.length cx] 22 (0, 0)) (by simp)
        refine ⟨by rw [hbz]; exact hl6.1, .inr ⟨rfl, ⟨?_, ad, cx, x, (World.putObj_heap_other (by omega)).trans hr6.1, fun h => hr6.2 (hO2 _ h), ?_, hn2, hcx, hx, by rw [HE.out]; exact HPX.out, hs6.lo _ hOx⟩, ?_⟩⟩
        · have := (hs6.sub (fx' := [(w.heap.size + 3, .deferred (some []))]) (fun p hp => by simp only [List.mem_cons, List.not_mem_nil, or_false] at hp ⊢; simp [hp])).setObj (.loop { r with state := .done, pending := some .ret }) hl6.1 (by omega) hl6.2 (fun p hp => by simp only [List.mem_cons, List.not_mem_nil, or_false] at hp; subst hp; dsimp only; omega)
          exact ⟨this.bel, fun k hk => this.lo k (hO2 k hk), fun p hp => ⟨(this.fix p hp).1, fun h => (this.fix p hp).2 (hO2 _ h)⟩⟩
        · exact ((Kept.refl (fun k => k ≠ w.heap.size + 4) w6).putObj (w.heap.size + 4) _ (.inl (fun h => h rfl))).reads hx6 (fun e => hl6.2 (e ▸ hOx))
        · exact (hk6.putObj (w.heap.size + 4) _ (.inl (fun h => h.elim hl6.2 (fun h => by omega)))).mono (fun k _ hk => .inl (hO2 k hk))
      · have hplen : pre.length < (ChunkPure.pieces Z b).length := (List.getElem?_eq_some_iff.1 HPX.out).1
        have hcount := ChunkPure.pieces_count Z b
        have he0 : ((i : Int) - pre.length == 0) = false := by rw [beq_eq_false_iff_ne]; omega
        have he1 : ¬ ((i : Int) - pre.length = 0) := by omega
        have hw : wrap64 ((i : Int) - pre.length - 1) = (i : Int) - pre.length - 1 := wrap_small _ (by omega) (by omega)
        clear hcount
        gi_wp2
        have hs6 := (HS.out.sub (fx' := [(w.heap.size + 4, .loop rb), (w.heap.size + 3, .deferred (some [])), (w.heap.size + 1, .cells #[.slice none 0 0] 22 (0, 0))]) (fun p hp => by simp only [List.mem_cons, List.not_mem_nil, or_false] at hp ⊢; rcases hp with h | h | h <;> simp [h])).setBox (u' := .int .i64 ((i : Int) - pre.length - 1)) HBI.out.1 (by omega) HBI.out.2 (fun p hp => by simp only [List.mem_cons, List.not_mem_nil, or_false] at hp; rcases hp with rfl | rfl | rfl <;> (dsimp only; omega))
        have hk6 := HK.out.setCell ⟨w.heap.size, 0, none⟩ (.int .i64 ((i : Int) - pre.length - 1)) (.inl (fun h => h.elim HBI.out.2 (fun h => by have : w.heap.size < w.heap.size := h; omega)))
        clear HS HK HX HBI HBR hci hfi hcr hfr
        generalize Wb.setCell ⟨w.heap.size, 0, none⟩ (.int .i64 ((i : Int) - pre.length - 1)) = w6 at *
        have hl6 := hs6.fixAt (g := w.heap.size + 4) (o := .loop rb) (by simp)
        have hr : ({ r with state := .ready, pending := none } : Loop) = r := by
          cases r
          simp only at hrs hrp
          subst hrs hrp
          rfl
        refine ⟨by rw [hbz]; exact hl6.1, .inl ⟨rfl, ⟨?_, by rw [List.length_append]; simp; omega⟩, ?_⟩⟩
        · rw [hr, show ((i : Int) - ((pre ++ [x]).length : Nat)) = (i : Int) - pre.length - 1 by simp; omega]
          have := (hs6.sub (fx' := [(w.heap.size + 3, .deferred (some [])), (w.heap.size + 1, .cells #[.slice none 0 0] 22 (0, 0)), (w.heap.size, .cells #[.int .i64 ((i : Int) - pre.length - 1)] 3 (0, 0))]) (fun p hp => by simp only [List.mem_cons, List.not_mem_nil, or_false] at hp ⊢; rcases hp with h | h | h <;> simp [h])).setObj (.loop r) hl6.1 (by omega) hl6.2 (fun p hp => by simp only [List.mem_cons, List.not_mem_nil, or_false] at hp; rcases hp with rfl | rfl | rfl <;> (dsimp only; omega))
          exact this
        · exact hk6.putObj (w.heap.size + 4) _ (.inl (fun h => h.elim hl6.2 (fun h => by omega)))
    have hp := pieces_in (w.heap.size + 4) (w.heap.size + 2) (n - 1) ⟨by have := hn.out; omega⟩ A c b _ _ w w5 hY hG hR hc hlen hb5 hh2 (by omega)
      ⟨⟨hb5, fun k hk => by omega, fun p hp => by
        simp only [List.mem_cons, List.not_mem_nil, or_false] at hp
        rcases hp with rfl | rfl | rfl | rfl
        · exact ⟨hh4, by show ¬ w.heap.size + 4 = w.heap.size + 2; omega⟩
        · exact ⟨hh3, by show ¬ w.heap.size + 3 = w.heap.size + 2; omega⟩
        · exact ⟨hh1, by show ¬ w.heap.size + 1 = w.heap.size + 2; omega⟩
        · exact ⟨by simpa using hh0, by show ¬ w.heap.size = w.heap.size + 2; omega⟩⟩, by simp⟩
    refine hp.mono ?_
    clear hp hY
    rintro e W ⟨hv, ⟨O, ⟨hs, hle⟩⟩ | ⟨O2, pre, hs, ad, cx, x, h1, h2, h3, h4, h5, h6, h7, h9⟩⟩
    · exact absurd hi (by omega)
    · have hl := hs.fixAt (g := w.heap.size + 4) (o := .loop { r with state := .done, pending := some .ret }) (by simp)
      have hd := hs.fixAt (g := w.heap.size + 3) (o := .deferred (some [])) (by simp)
      refine ⟨hv, .inr ⟨hl.1, wpIn_ret ?_⟩⟩
      show LeavesInM Fence.wide n Tryd.prog Tryd.f20 _ _ [{ target := .collected (w.heap.size + 3), args := #[] }] .returning _
      generalize hrx : ({ r with state := .exhausted, pending := some .ret } : Loop) = rx
      have hk7 := (Kept.refl (fun k => k ≠ w.heap.size + 4) W).putObj (w.heap.size + 4) (.loop rx) (.inl (fun h => h rfl))
      have hb7 := hs.bel.trans ((hk7.mono (fun k _ (hk : k < w.heap.size) => by show k ≠ _; omega)).below hs.bel.size)
      have h17 := hk7.block h1 (by omega)
      have hd7 := hk7.block hd.1 (by omega)
      have h37 := hk7.reads h3 (fun e => by
        obtain ⟨ad', e', hc'⟩ := Kd.at_int h3 0 (by omega) (by omega)
        cases e'
        have hb : (ad.add (0 : Int).toNat).block = ad.block := by unfold Addr.add; split <;> rfl
        rw [World.cell?, hb, e, hl.1] at hc'
        simp at hc')
      generalize W.putObj (w.heap.size + 4) (.loop rx) = w7 at *
      have hk8 := (Kept.refl (fun k => k ≠ w.heap.size + 3) w7).putObj (w.heap.size + 3) (.deferred none) (.inl (fun h => h rfl))
      have h18 := hk8.block h17 (by omega)
      have hb8 := hb7.trans ((hk8.mono (fun k _ (hk : k < w.heap.size) => by show k ≠ _; omega)).below hb7.size)
      have h38 := hk8.reads h37 (fun e => by
        obtain ⟨ad', e', hc'⟩ := Kd.at_int h37 0 (by omega) (by omega)
        cases e'
        have hb : (ad.add (0 : Int).toNat).block = ad.block := by unfold Addr.add; split <;> rfl
        rw [World.cell?, hb, e, hd7] at hc'
        simp at hc')
      refine ⟨by simp, .inl ⟨_, _, rfl, run_takeDeferred hd7, ⟨_, ?_, ⟨ad, cx, x, rfl, h7, h6, h5, h38, hb8, h9⟩⟩⟩⟩
      exact results_box rfl _ _ (w.heap.size + 1) _ rfl h18
  gi_region_with_o (refine ⟨trivial, fun h => (by cases h), ?_⟩; gi_at_call 16; refine (callsIn_wide.2 (chunk_Pieces_calls _ _)).mono ?_; rintro e w1 ⟨rfl, rfl⟩)
  all_goals exact hnext
set_option maxRecDepth 100000 in
set_option maxHeartbeats 4000000 in
theorem chunk_Piece_none (A : Option Addr) (c : Nat) (L : Nat) (i : Int) (w : World) (hi : i < 0 ∨ countOf L ≤ i) :
    Calls Tryd.prog 20 #[.slice A L c, .int .i64 i] w fun e w' => e = .returned (.slice none 0 0) ∧ Below w.heap.size w w' := by
  have hmix : Tryd.prog.follows .mixedOrders = true := by kernel_rfl
  have h18 : ∀ nq, ((((w.alloc (.cells #[.int .i64 i] 3)).alloc (.cells #[.slice none 0 0] 22)).drewN nq).setCell ⟨w.heap.size + 1, 0, none⟩ (.slice none 0 0)).heap[w.heap.size + 1]? = some (.cells #[.slice none 0 0] 22 (0, 0)) := fun nq => by
    have hg : (((w.alloc (.cells #[.int .i64 i] 3)).alloc (.cells #[.slice none 0 0] 22)).drewN nq).heap[w.heap.size + 1]? = some (.cells #[.slice none 0 0] 22 (0, 0)) := by
      show ((w.alloc (.cells #[.int .i64 i] 3)).alloc (.cells #[.slice none 0 0] 22)).heap[w.heap.size + 1]? = _
      have hz1 : (w.alloc (.cells #[.int .i64 i] 3)).heap.size = w.heap.size + 1 := by show (w.heap.push _).size = _; simp
      rw [← hz1]; exact World.alloc_heap_new _ _
    rw [heap_setCell_same _ _ _ _ _ _ hg]
    rfl
  have hbl : ∀ nq, Below w.heap.size w ((((w.alloc (.cells #[.int .i64 i] 3)).alloc (.cells #[.slice none 0 0] 22)).drewN nq).setCell ⟨w.heap.size + 1, 0, none⟩ (.slice none 0 0)) := fun nq =>
    (pw_below_drewN (((Below.refl w.heap.size w).alloc (Nat.le_refl _) _).alloc (by show _ ≤ (w.heap.push _).size; simp) _) nq).setCell (p := ⟨w.heap.size + 1, 0, none⟩) (by simp) _
  have H18 := Aside0.mk h18
  have HBL := Aside0.mk hbl
  clear h18 hbl
  by_cases h0 : i < 0
  · have hle : decide (i < 0) = true := decide_eq_true h0
    go_enter Tryd.func20, Tryd.ntmps20
    go_wp2
    go_quiet (fail)
    go_wp2
    exact bodyPost_ret (results_box rfl _ _ (w.heap.size + 1) _ rfl (H18.out _)) rfl ⟨rfl, HBL.out _⟩
  · have hle : decide (i < 0) = false := decide_eq_false h0
    have hge : decide (countOf (L : Int) ≤ i) = true := decide_eq_true (by omega)
    go_enter Tryd.func20, Tryd.ntmps20
    go_wp2
    go_quiet ((go_at_call 16; exact (chunk_Pieces_calls _ _).mono (fun _ _ ⟨he, hw⟩ => ⟨he, _, hw⟩)))
    go_wp2
    exact bodyPost_ret (results_box rfl _ _ (w.heap.size + 1) _ rfl (H18.out _)) rfl ⟨rfl, HBL.out _⟩
theorem chunk_Piece_new (A : Option Addr) (c : Nat) (b : List Int) (i : Int) (w : World) (hG : Glob w) (hR : Reads w A b) (hc : b.length ≤ c) (hlen : b.length ≤ 1048576) :
    Calls Tryd.prog 20 #[.slice A b.length c, .int .i64 i] w fun e w' => ∃ Av cv, e = .returned (.slice Av (pieceOf b i).length cv) ∧ (pieceOf b i).length ≤ cv ∧ Reads w' Av (pieceOf b i) ∧ Below w.heap.size w w' ∧ ∀ ad, Av = some ad → w.heap.size ≤ ad.block := by
  have hcnt : countOf b.length = ((ChunkPure.pieces Z b).length : Nat) := by rw [ChunkPure.pieces_count]; unfold countOf; rw [if_pos (by omega)]; omega
  by_cases hi : i < 0 ∨ countOf b.length ≤ i
  · have hp : pieceOf b i = [] := by
      unfold pieceOf
      rcases hi with hi | hi
      · rw [if_neg (by omega)]
      · rw [hcnt] at hi
        rw [if_pos (by omega), List.getElem?_eq_none (by omega)]
        rfl
    rw [hp]
    refine (chunk_Piece_none A c b.length i w hi).mono ?_
    rintro e w' ⟨rfl, hb⟩
    exact ⟨none, 0, rfl, Nat.le_refl _, Kd.C_nil _ _, hb, fun _ h => by cases h⟩
  · rw [hcnt] at hi
    obtain ⟨k, rfl⟩ := Int.eq_ofNat_of_zero_le (show 0 ≤ i by omega)
    refine (callsIn_wide.1 (chunk_Piece_in 5 ⟨by omega⟩ A c b k w hG hR hc hlen (by omega))).mono ?_
    rintro e w' ⟨ad, cx, x, rfl, hx, hx0, hcx, hr, hb, hn⟩
    have hp : pieceOf b (k : Int) = x := by unfold pieceOf; rw [if_pos (by omega), Int.toNat_natCast, hx]; rfl
    rw [hp]
    exact ⟨some ad, cx, rfl, hcx, hr, hb, fun _ h => by cases h; exact hn⟩
theorem chunk_Piece_calls (A : Option Addr) (c : Nat) (b : List Int) (i : Int) (w : World) (hG : Glob w) (hR : Reads w A b) (hc : b.length ≤ c) (hlen : b.length ≤ 1048576) :
    Calls Tryd.prog 20 #[.slice A b.length c, .int .i64 i] w fun e w' => ∃ Av cv, e = .returned (.slice Av (pieceOf b i).length cv) ∧ (pieceOf b i).length ≤ cv ∧ Reads w' Av (pieceOf b i) ∧ Below w.heap.size w w' :=
  (chunk_Piece_new A c b i w hG hR hc hlen).mono (fun e w' ⟨Av, cv, h1, h2, h3, h4, _⟩ => ⟨Av, cv, h1, h2, h3, h4⟩)
end Go.Proofs.YtpnlpbbnakplhaaDoor
